/- texts of this claim, one behind the other. -/
import Derived.Test.YthdfmbmbjpmlaaaGreatDoorMGAe
import Derived.Test.YthdfmbmbjpmlaaaGreatDoorMGAc
import Derived.Test.YthdfmbmbjpmlaaaGreatDoorMGAb
import Derived.Test.YthdfmbmbjpmlaaaGreatDoorMGAa
import Derived.Test.YthdfmbmbjpmlaaaGreatDoorMGAd
import Derived.Deep.Slices
import Derived.OpenShut
import Derived.Carry
import Derived.Test.YthdfmbmbjpmlaaaGreatDoorProg
import Derived.Test.YthdfmbmbjpmlaaaGreatDoorRows
import Derived.Lib.LaidU8T
import Derived.LaidOnce
import Derived.Lay
import Derived.SizedLaws
import Derived.ProofKit
import Derived.SevenTiedAt
section
set_option linter.unusedVariables false
set_option linter.unusedSimpArgs false
namespace Go.Proofs.YthdfmbmbjpmlaaaGreatDoor.Rn
open Go Go.RowKit Go.Proofs.YthdfmbmbjpmlaaaGreatDoorW.PrintWords Go.Proofs.YthdfmbmbjpmlaaaGreatDoorW.PrintLast Go.Proofs.YthdfmbmbjpmlaaaGreatDoorW.PrintMore
theorem rtexts_any (l m : List ByteArray) (A B : Option Addr) (c d : Nat) (W : World) (hC : Kd.string.C W A l.length l) (hc : l.length ≤ c) (hD : Kd.string.C W B m.length m) (hd : m.length ≤ d) :
 Calls Tryz.prog 34 #[.slice A l.length c, .slice B m.length d] W fun e W' => e = .returned (.bool (eqL txQ l m)) ∧ Below W.heap.size W W' := by
 obtain ⟨K, hK⟩ := rtexts_ev l m hC.2.1
 refine (goboref11_texts.calls K A c l B d m _ W hC hc hD hd (hK K (Nat.le_refl K))).mono ?_
 rintro e w ⟨rfl, n, rfl⟩
 exact ⟨rfl, pw_below_drewN (Below.refl _ _) _⟩
theorem eqL_at {α : Type} (f : α → α → Bool) {l l' : List α} {m : Nat} {x y : α} (h : l[m]? = some x) (h' : l'[m]? = some y) : eqL f (l.drop m) (l'.drop m) = (f x y && eqL f (l.drop (m + 1)) (l'.drop (m + 1))) := by
 have hlt := (List.getElem?_eq_some_iff.1 h).1
 obtain rfl : l[m] = x := (List.getElem?_eq_some_iff.1 h).2
 have hlt' := (List.getElem?_eq_some_iff.1 h').1
 obtain rfl : l'[m] = y := (List.getElem?_eq_some_iff.1 h').2
 rw [List.drop_eq_getElem_cons hlt, List.drop_eq_getElem_cons hlt', eqL]
set_option maxHeartbeats 40000000 in
set_option maxRecDepth 100000 in
theorem rsameg_any (T T' : List Tok) (R R' : List Rul) (A0 A1 B0 B1 : Option Addr) (c0 c1 d0 d1 : Nat) (W : World) (hso : ∀ t, t ∈ T → setOk t.f3) (hA0 : kTok.C W A0 T.length T) (hA1 : kRul.C W A1 R.length R) (hB0 : kTok.C W B0 T'.length T') (hB1 : kRul.C W B1 R'.length R') :
 Calls Tryz.prog 10 #[.agg #[.slice A0 T.length c0, .slice A1 R.length c1], .agg #[.slice B0 T'.length d0, .slice B1 R'.length d1]] W fun e W' => e = .returned (.bool (sameS T R T' R')) ∧ Below W.heap.size W W' := by
 have HA0 := Aside0.mk hA0
 have HA1 := Aside0.mk hA1
 have HB0' := Aside0.mk hB0
 have HB1' := Aside0.mk hB1
 have HSO := Aside0.mk hso
 have hlT : T.length ≤ 9223372036854775807 := hA0.2.1
 have hlR : R.length ≤ 9223372036854775807 := hA1.2.1
 obtain ⟨res, hres⟩ : ∃ r, sameS T R T' R' = r := ⟨_, rfl⟩
 have HR : Aside0 ((eqL sameTok T T' && eqL sameRul R R') = res) := ⟨hres⟩
 rw [hres]
 clear hso hA0 hA1 hB0 hB1 hres
 go_enter Tryz.func10, Tryz.ntmps10
 go_upto_region 1 with (fail)
 obtain ⟨wa, hwa⟩ : ∃ z, W.alloc (.cells #[.slice A0 T.length c0, .slice A1 R.length c1] 25) = z := ⟨_, rfl⟩
 obtain ⟨w1, hw1⟩ : ∃ z, wa.alloc (.cells #[.slice B0 T'.length d0, .slice B1 R'.length d1] 25) = z := ⟨_, rfl⟩
 obtain ⟨bg, hbg⟩ : ∃ z, W.heap.size = z := ⟨_, rfl⟩
 have hs1 : wa.heap.size = bg + 1 := by rw [← hwa, ← hbg]; simp
 have HBa : Below W.heap.size W wa := hwa ▸ below1 _ _
 have HBb : Below wa.heap.size wa w1 := hw1 ▸ below1 _ _
 have HB0 : Aside0 (Below W.heap.size W w1) := ⟨join_below HBa HBb⟩
 have HKX : Aside0 (w1.heap[bg]? = some (.cells #[.slice A0 T.length c0, .slice A1 R.length c1] 25 (0, 0))) := ⟨blk_below (by rw [← hwa, ← hbg]; exact blk_new _ _) HBb⟩
 have HKY : Aside0 (w1.heap[bg + 1]? = some (.cells #[.slice B0 T'.length d0, .slice B1 R'.length d1] 25 (0, 0))) := ⟨by rw [← hs1, ← hw1]; exact blk_new _ _⟩
 rw [hwa, hw1, hbg]
 clear hwa hw1 hs1 HBa HBb hbg
 have x0 : w1.cell? ⟨bg, 0, none⟩ = some (.slice A0 T.length c0) := (blk_cell HKX.out 0).trans rfl
 have x1 : w1.cell? ⟨bg, 1, none⟩ = some (.slice A1 R.length c1) := (blk_cell HKX.out 1).trans rfl
 have y0 : w1.cell? ⟨bg + 1, 0, none⟩ = some (.slice B0 T'.length d0) := (blk_cell HKY.out 0).trans rfl
 have y1 : w1.cell? ⟨bg + 1, 1, none⟩ = some (.slice B1 R'.length d1) := (blk_cell HKY.out 1).trans rfl
 by_cases hk : T.length = T'.length
 case neg =>
  have t0 : ((T.length : Int) == (T'.length : Int)) = false := beq_eq_false_iff_ne.2 (by omega)
  have t0b : ((T.length : Int) != (T'.length : Int)) = true := by rw [bne, t0]; rfl
  have HRR : Aside0 (res = false) := ⟨by rw [← HR.out, eqL_len sameTok hk]; rfl⟩
  clear hk
  go_wp2
  go_ret
  rw [HRR.out]
  exact ⟨rfl, HB0.out⟩
 have t0 : ((T.length : Int) == (T'.length : Int)) = true := beq_iff_eq.2 (by omega)
 have t0b : ((T.length : Int) != (T'.length : Int)) = false := by rw [bne, t0]; rfl
 by_cases hl : R.length = R'.length
 case neg =>
  have t1 : ((R.length : Int) == (R'.length : Int)) = false := beq_eq_false_iff_ne.2 (by omega)
  have t1b : ((R.length : Int) != (R'.length : Int)) = true := by rw [bne, t1]; rfl
  have HRR : Aside0 (res = false) := ⟨by rw [← HR.out, eqL_len sameRul hl, Bool.and_false]⟩
  clear hk hl
  go_wp2
  go_ret
  rw [HRR.out]
  exact ⟨rfl, HB0.out⟩
 have t1 : ((R.length : Int) == (R'.length : Int)) = true := beq_iff_eq.2 (by omega)
 have t1b : ((R.length : Int) != (R'.length : Int)) = false := by rw [bne, t1]; rfl
 have HLT := Aside0.mk hk
 have HLR := Aside0.mk hl
 clear hk hl
 obtain ⟨rt, hrt⟩ : ∃ z, eqL sameTok (T.drop 0) (T'.drop 0) = z := ⟨_, rfl⟩
 have HRT := Aside0.mk hrt
 have HR2 : Aside0 ((rt && eqL sameRul R R') = res) := ⟨by rw [← hrt, ← HR.out]; rfl⟩
 clear hrt HR
 go_upto_block 0 with (fail)
 clear t0 t0b t1 t1b x0 x1 y0 y1
 go_cut [5] (fun v w' => Aside0 (Below w1.heap.size w1 w' ∧ rt = true))
 case first =>
  go_wp2_with fail
  go_loopw [5] (fun i w => ∃ m : Nat, i = .int .i64 (m : Int) ∧ m ≤ T.length ∧ Aside0 (Below w1.heap.size w1 w ∧ eqL sameTok (T.drop m) (T'.drop m) = rt)) (fun i _ => T.length - (intOf i).toNat)
  case atStart => exact ⟨0, rfl, Nat.zero_le _, ⟨⟨Below.refl _ _, HRT.out⟩⟩⟩
  case round =>
   obtain ⟨m, rfl, hm, HS⟩ := hrel
   obtain ⟨w4, hw4⟩ : ∃ z, wr = z := ⟨_, rfl⟩
   rw [hw4] at HS ⊢
   clear hw4
   have HB4 := Aside0.mk (join_below HB0.out HS.out.1)
   have y3 : w4.cell? ⟨bg, 0, none⟩ = some (.slice A0 T.length c0) := (blk_cell (blk_below HKX.out HS.out.1) 0).trans rfl
   by_cases hlt : m < T.length
   · have e1 : decide (m < T.length) = true := decide_eq_true hlt
     have hil : (m : Int) < T.length := by omega
     have hil2 : (m : Int) < T'.length := by have := HLT.out; omega
     obtain ⟨g, og, hA, _, hcell⟩ := row_cells HA0.out (by omega) (by decide)
     subst hA
     obtain ⟨g2, og2, hA, _, hcell2⟩ := row_cells HB0'.out (by have := HLT.out; omega) (by decide)
     subst hA
     obtain ⟨u, hu⟩ : ∃ u, T[m]? = some u := ⟨_, List.getElem?_eq_getElem hlt⟩
     obtain ⟨v, hv⟩ : ∃ v, T'[m]? = some v := ⟨_, List.getElem?_eq_getElem (by have := HLT.out; omega)⟩
     obtain ⟨cs, _, hK, hcc⟩ := hcell m u hu
     obtain ⟨ds, _, hK2, hcc2⟩ := hcell2 m v hv
     obtain ⟨P4, p4, P5, p5, rfl, k4, h4, k5, h5⟩ := k40_open hK
     obtain ⟨Q4, q4, Q5, q5, rfl, j4, i4, j5, i5⟩ := k40_open hK2
     have HKU : Aside0 (k38.K W u.f3 [.int .i64 u.f3.f0, .slice P4 u.f3.f1.length p4, .slice P5 u.f3.f2.length p5]) := ⟨k38_mk W u.f3 k4 h4 k5 h5⟩
     have HKV : Aside0 (k38.K W v.f3 [.int .i64 v.f3.f0, .slice Q4 v.f3.f1.length q4, .slice Q5 v.f3.f2.length q5]) := ⟨k38_mk W v.f3 j4 i4 j5 i5⟩
     have HCC := Aside0.mk (And.intro hcc hcc2)
     have HLM := Aside0.mk hlt
     have HAT := Aside0.mk ((eqL_at sameTok hu hv).symm.trans HS.out.2)
     have HSU := Aside0.mk (HSO.out u (List.mem_of_getElem? hu))
     clear hcell hcell2 hcc hcc2 hK hK2 hu hv hlt k4 h4 k5 h5 j4 i4 j5 i5
     go_upto_region 6 with (fail)
     clear e1 y3
     have g0 : ∀ p : Later w4, p.wx.cell? ⟨bg, 0, none⟩ = some (.slice (some ⟨g, og, none⟩) T.length c0) := fun p => (blk_cell (blk_below HKX.out (join_below HS.out.1 p.below)) 0).trans rfl
     have g1 : ∀ p : Later w4, p.wx.cell? ⟨bg + 1, 0, none⟩ = some (.slice (some ⟨g2, og2, none⟩) T'.length d0) := fun p => (blk_cell (blk_below HKY.out (join_below HS.out.1 p.below)) 0).trans rfl
     have hund : undef = Value.tuple #[] := rfl
     have s0 : ∀ p : Later w4, p.wx.cell? ⟨g, og + m * 6 + 0, none⟩ = some (.string u.f0) := fun p => cell_after p.below (cell_after HB4.out (HCC.out.1 0 _ rfl))
     have r0 : ∀ p : Later w4, p.wx.cell? ⟨g2, og2 + m * 6 + 0, none⟩ = some (.string v.f0) := fun p => cell_after p.below (cell_after HB4.out (HCC.out.2 0 _ rfl))
     have s1 : ∀ p : Later w4, p.wx.cell? ⟨g, og + m * 6 + 1, none⟩ = some (.int .i64 u.f1) := fun p => cell_after p.below (cell_after HB4.out (HCC.out.1 1 _ rfl))
     have r1 : ∀ p : Later w4, p.wx.cell? ⟨g2, og2 + m * 6 + 1, none⟩ = some (.int .i64 v.f1) := fun p => cell_after p.below (cell_after HB4.out (HCC.out.2 1 _ rfl))
     have s2 : ∀ p : Later w4, p.wx.cell? ⟨g, og + m * 6 + 2, none⟩ = some (.int .i64 u.f2) := fun p => cell_after p.below (cell_after HB4.out (HCC.out.1 2 _ rfl))
     have r2 : ∀ p : Later w4, p.wx.cell? ⟨g2, og2 + m * 6 + 2, none⟩ = some (.int .i64 v.f2) := fun p => cell_after p.below (cell_after HB4.out (HCC.out.2 2 _ rfl))
     have s3 : ∀ p : Later w4, p.wx.cell? ⟨g, og + m * 6 + 3, none⟩ = some (.int .i64 u.f3.f0) := fun p => cell_after p.below (cell_after HB4.out (HCC.out.1 3 _ rfl))
     have r3 : ∀ p : Later w4, p.wx.cell? ⟨g2, og2 + m * 6 + 3, none⟩ = some (.int .i64 v.f3.f0) := fun p => cell_after p.below (cell_after HB4.out (HCC.out.2 3 _ rfl))
     have s4 : ∀ p : Later w4, p.wx.cell? ⟨g, og + m * 6 + 4, none⟩ = some (.slice P4 u.f3.f1.length p4) := fun p => cell_after p.below (cell_after HB4.out (HCC.out.1 4 _ rfl))
     have r4 : ∀ p : Later w4, p.wx.cell? ⟨g2, og2 + m * 6 + 4, none⟩ = some (.slice Q4 v.f3.f1.length q4) := fun p => cell_after p.below (cell_after HB4.out (HCC.out.2 4 _ rfl))
     have s5 : ∀ p : Later w4, p.wx.cell? ⟨g, og + m * 6 + 5, none⟩ = some (.slice P5 u.f3.f2.length p5) := fun p => cell_after p.below (cell_after HB4.out (HCC.out.1 5 _ rfl))
     have r5 : ∀ p : Later w4, p.wx.cell? ⟨g2, og2 + m * 6 + 5, none⟩ = some (.slice Q5 v.f3.f2.length q5) := fun p => cell_after p.below (cell_after HB4.out (HCC.out.2 5 _ rfl))
     simp only [Nat.add_zero] at s0 r0
     clear hund
     obtain ⟨wd, hwd⟩ : ∃ z, w4.drew = z := ⟨_, rfl⟩
     have HLW : Aside0 (Below w4.heap.size w4 wd) := ⟨hwd ▸ below_drew1 (Below.refl _ _)⟩
     go_cut [6, 7] (fun a b w' => ∃ b6 b7, a = .pointer (some ⟨b6, 0, none⟩) ∧ b = .pointer (some ⟨b7, 0, none⟩) ∧ Aside0 (Below w4.heap.size w4 w' ∧ w'.heap[b6]? = some (.cells #[.string u.f0, .int .i64 u.f1, .int .i64 u.f2, .int .i64 u.f3.f0, .slice P4 u.f3.f1.length p4, .slice P5 u.f3.f2.length p5] 40 (0, 0)) ∧ w'.heap[b7]? = some (.cells #[.string v.f0, .int .i64 v.f1, .int .i64 v.f2, .int .i64 v.f3.f0, .slice Q4 v.f3.f1.length q4, .slice Q5 v.f3.f2.length q5] 40 (0, 0))))
     case first =>
      refine wp_region_held (S := fun w' => ∃ p : Later w4, w' = p.wx) (by kernel_rfl) ?_
      change wpAnyH _ _ _ _ _ _ _ _ (World.drew _)
      rw [hwd]
      clear hwd
      iterate 8 ((first | refine takeR (i := 0) (by decide +kernel) (by rfl) ?_ ?_ ?_ | refine takeR (i := 1) (by decide +kernel) (by rfl) ?_ ?_ ?_ | refine takeR (i := 2) (by decide +kernel) (by rfl) ?_ ?_ ?_ | refine takeR (i := 3) (by decide +kernel) (by rfl) ?_ ?_ ?_ | refine takeR (i := 4) (by decide +kernel) (by rfl) ?_ ?_ ?_ | refine takeR (i := 5) (by decide +kernel) (by rfl) ?_ ?_ ?_ | refine takeR (i := 6) (by decide +kernel) (by rfl) ?_ ?_ ?_ | refine takeR (i := 7) (by decide +kernel) (by rfl) ?_ ?_ ?_); (focus first | exact fun _ _ _ _ h => h | exact fun _ _ _ _ h => HPQ.out _ _ _ _ (by rfl) h); (focus exact ⟨⟨_, HLW.out⟩, rfl⟩); intro K hK; go_simp; (with_reducible refine hK _ ?_); clear hK K)
      iterate 2 ((first | refine takeR (i := 8) (by decide +kernel) (by rfl) ?_ ?_ ?_ | refine takeR (i := 9) (by decide +kernel) (by rfl) ?_ ?_ ?_); (focus first | exact fun _ _ _ _ h => h | exact fun _ _ _ _ h => HPQ.out _ _ _ _ (by rfl) h); (focus exact ⟨⟨_, HLW.out⟩, rfl⟩); intro K hK; go_simp; (with_reducible refine hK _ ?_); clear hK K)
      refine hall2 (i := 10) (j := 11) (by kernel_rfl) (by rfl) (by rfl) (fun K hK => ?_) (fun K hK => ?_)
      · skip
        go_simp
        obtain ⟨u1, hv⟩ : ∃ x, wd.alloc (.cells #[.string ⟨#[]⟩, .int .i64 0, .int .i64 0, .int .i64 0, .slice none 0 0, .slice none 0 0] 40) = x := ⟨_, rfl⟩
        rw [hv]
        obtain ⟨b6, hg⟩ : ∃ x, wd.heap.size = x := ⟨_, rfl⟩
        rw [hg]
        have Kb6 : Aside0 (u1.heap[b6]? = some (.cells #[.string ⟨#[]⟩, .int .i64 0, .int .i64 0, .int .i64 0, .slice none 0 0, .slice none 0 0] 40 (0, 0))) := ⟨by rw [← hv, ← hg]; exact blk_new _ _⟩
        have ST : Aside0 (Below wd.heap.size wd u1) := ⟨hv ▸ below1 _ _⟩
        have Gb6 : Aside0 (w4.heap.size ≤ b6) := ⟨hg ▸ HLW.out.size⟩
        clear hv hg
        have HLW := Aside0.mk (join_below HLW.out ST.out)
        refine hK _ _ ⟨⟨_, HLW.out⟩, rfl⟩ ?_
        clear hK K ST
        refine hall1 (i := 11) (by kernel_rfl) (by rfl) (fun K hK => ?_)
        go_simp
        obtain ⟨u2, hv⟩ : ∃ x, u1.alloc (.cells #[.string ⟨#[]⟩, .int .i64 0, .int .i64 0, .int .i64 0, .slice none 0 0, .slice none 0 0] 40) = x := ⟨_, rfl⟩
        rw [hv]
        obtain ⟨b7, hg⟩ : ∃ x, u1.heap.size = x := ⟨_, rfl⟩
        rw [hg]
        have Kb7 : Aside0 (u2.heap[b7]? = some (.cells #[.string ⟨#[]⟩, .int .i64 0, .int .i64 0, .int .i64 0, .slice none 0 0, .slice none 0 0] 40 (0, 0))) := ⟨by rw [← hv, ← hg]; exact blk_new _ _⟩
        have ST : Aside0 (Below u1.heap.size u1 u2) := ⟨hv ▸ below1 _ _⟩
        have Gb7 : Aside0 (w4.heap.size ≤ b7) := ⟨hg ▸ HLW.out.size⟩
        have NE : Aside0 (b6 ≠ b7) := ⟨by have h := blk_lt Kb6.out; omega⟩
        have Kb6 := Aside0.mk (blk_below Kb6.out ST.out)
        clear hv hg
        have HLW := Aside0.mk (join_below HLW.out ST.out)
        refine hK _ _ ⟨⟨_, HLW.out⟩, rfl⟩ ?_
        clear hK K ST
        have y0 : World.cell? u2 ⟨b6, 0, none⟩ = some (.string ⟨#[]⟩) := (blk_cell Kb6.out 0).trans rfl
        have z0 := blk_frozen Kb6.out 0
        have y1 : World.cell? u2 ⟨b6, 1, none⟩ = some (.int .i64 0) := (blk_cell Kb6.out 1).trans rfl
        have z1 := blk_frozen Kb6.out 1
        have y2 : World.cell? u2 ⟨b6, 2, none⟩ = some (.int .i64 0) := (blk_cell Kb6.out 2).trans rfl
        have z2 := blk_frozen Kb6.out 2
        have y3 : World.cell? u2 ⟨b6, 3, none⟩ = some (.int .i64 0) := (blk_cell Kb6.out 3).trans rfl
        have z3 := blk_frozen Kb6.out 3
        have y4 : World.cell? u2 ⟨b6, 4, none⟩ = some (.slice none 0 0) := (blk_cell Kb6.out 4).trans rfl
        have z4 := blk_frozen Kb6.out 4
        have y5 : World.cell? u2 ⟨b6, 5, none⟩ = some (.slice none 0 0) := (blk_cell Kb6.out 5).trans rfl
        have z5 := blk_frozen Kb6.out 5
        refine hall1 (i := 12) (by kernel_rfl) (by rfl) (fun K hK => ?_)
        go_simp
        clear y0 z0 y1 z1 y2 z2 y3 z3 y4 z4 y5 z5
        obtain ⟨u3, hv⟩ : ∃ x, (World.setCell (World.setCell (World.setCell (World.setCell (World.setCell (World.setCell u2 ⟨b6, 0, none⟩ (.string u.f0)) ⟨b6, 1, none⟩ (.int .i64 u.f1)) ⟨b6, 2, none⟩ (.int .i64 u.f2)) ⟨b6, 3, none⟩ (.int .i64 u.f3.f0)) ⟨b6, 4, none⟩ (.slice P4 u.f3.f1.length p4)) ⟨b6, 5, none⟩ (.slice P5 u.f3.f2.length p5)) = x := ⟨_, rfl⟩
        have Kb6 : Aside0 (u3.heap[b6]? = some (.cells #[.string u.f0, .int .i64 u.f1, .int .i64 u.f2, .int .i64 u.f3.f0, .slice P4 u.f3.f1.length p4, .slice P5 u.f3.f2.length p5] 40 (0, 0))) := ⟨hv ▸ (blk_put (blk_put (blk_put (blk_put (blk_put (blk_put Kb6.out 0 (.string u.f0) rfl) 1 (.int .i64 u.f1) rfl) 2 (.int .i64 u.f2) rfl) 3 (.int .i64 u.f3.f0) rfl) 4 (.slice P4 u.f3.f1.length p4) rfl) 5 (.slice P5 u.f3.f2.length p5) rfl)⟩
        have HLW : Aside0 (Below w4.heap.size w4 u3) := ⟨hv ▸ ((((((HLW.out.setCell Gb6.out (.string u.f0)).setCell Gb6.out (.int .i64 u.f1)).setCell Gb6.out (.int .i64 u.f2)).setCell Gb6.out (.int .i64 u.f3.f0)).setCell Gb6.out (.slice P4 u.f3.f1.length p4)).setCell Gb6.out (.slice P5 u.f3.f2.length p5))⟩
        have Kb7 : Aside0 (u3.heap[b7]? = some (.cells #[.string ⟨#[]⟩, .int .i64 0, .int .i64 0, .int .i64 0, .slice none 0 0, .slice none 0 0] 40 (0, 0))) := ⟨by have HNE : b7 ≠ b6 := (by have h := NE.out; omega); exact hv ▸ (blk_far (blk_far (blk_far (blk_far (blk_far (blk_far Kb7.out HNE (.string u.f0)) HNE (.int .i64 u.f1)) HNE (.int .i64 u.f2)) HNE (.int .i64 u.f3.f0)) HNE (.slice P4 u.f3.f1.length p4)) HNE (.slice P5 u.f3.f2.length p5))⟩
        rw [hv]
        clear hv
        refine hK _ _ ⟨⟨_, HLW.out⟩, rfl⟩ ?_
        clear hK K
        have y0 : World.cell? u3 ⟨b7, 0, none⟩ = some (.string ⟨#[]⟩) := (blk_cell Kb7.out 0).trans rfl
        have z0 := blk_frozen Kb7.out 0
        have y1 : World.cell? u3 ⟨b7, 1, none⟩ = some (.int .i64 0) := (blk_cell Kb7.out 1).trans rfl
        have z1 := blk_frozen Kb7.out 1
        have y2 : World.cell? u3 ⟨b7, 2, none⟩ = some (.int .i64 0) := (blk_cell Kb7.out 2).trans rfl
        have z2 := blk_frozen Kb7.out 2
        have y3 : World.cell? u3 ⟨b7, 3, none⟩ = some (.int .i64 0) := (blk_cell Kb7.out 3).trans rfl
        have z3 := blk_frozen Kb7.out 3
        have y4 : World.cell? u3 ⟨b7, 4, none⟩ = some (.slice none 0 0) := (blk_cell Kb7.out 4).trans rfl
        have z4 := blk_frozen Kb7.out 4
        have y5 : World.cell? u3 ⟨b7, 5, none⟩ = some (.slice none 0 0) := (blk_cell Kb7.out 5).trans rfl
        have z5 := blk_frozen Kb7.out 5
        refine hall1 (i := 13) (by kernel_rfl) (by rfl) (fun K hK => ?_)
        go_simp
        clear y0 z0 y1 z1 y2 z2 y3 z3 y4 z4 y5 z5
        obtain ⟨u4, hv⟩ : ∃ x, (World.setCell (World.setCell (World.setCell (World.setCell (World.setCell (World.setCell u3 ⟨b7, 0, none⟩ (.string v.f0)) ⟨b7, 1, none⟩ (.int .i64 v.f1)) ⟨b7, 2, none⟩ (.int .i64 v.f2)) ⟨b7, 3, none⟩ (.int .i64 v.f3.f0)) ⟨b7, 4, none⟩ (.slice Q4 v.f3.f1.length q4)) ⟨b7, 5, none⟩ (.slice Q5 v.f3.f2.length q5)) = x := ⟨_, rfl⟩
        have Kb7 : Aside0 (u4.heap[b7]? = some (.cells #[.string v.f0, .int .i64 v.f1, .int .i64 v.f2, .int .i64 v.f3.f0, .slice Q4 v.f3.f1.length q4, .slice Q5 v.f3.f2.length q5] 40 (0, 0))) := ⟨hv ▸ (blk_put (blk_put (blk_put (blk_put (blk_put (blk_put Kb7.out 0 (.string v.f0) rfl) 1 (.int .i64 v.f1) rfl) 2 (.int .i64 v.f2) rfl) 3 (.int .i64 v.f3.f0) rfl) 4 (.slice Q4 v.f3.f1.length q4) rfl) 5 (.slice Q5 v.f3.f2.length q5) rfl)⟩
        have HLW : Aside0 (Below w4.heap.size w4 u4) := ⟨hv ▸ ((((((HLW.out.setCell Gb7.out (.string v.f0)).setCell Gb7.out (.int .i64 v.f1)).setCell Gb7.out (.int .i64 v.f2)).setCell Gb7.out (.int .i64 v.f3.f0)).setCell Gb7.out (.slice Q4 v.f3.f1.length q4)).setCell Gb7.out (.slice Q5 v.f3.f2.length q5))⟩
        have Kb6 : Aside0 (u4.heap[b6]? = some (.cells #[.string u.f0, .int .i64 u.f1, .int .i64 u.f2, .int .i64 u.f3.f0, .slice P4 u.f3.f1.length p4, .slice P5 u.f3.f2.length p5] 40 (0, 0))) := ⟨by have HNE : b6 ≠ b7 := (by have h := NE.out; omega); exact hv ▸ (blk_far (blk_far (blk_far (blk_far (blk_far (blk_far Kb6.out HNE (.string v.f0)) HNE (.int .i64 v.f1)) HNE (.int .i64 v.f2)) HNE (.int .i64 v.f3.f0)) HNE (.slice Q4 v.f3.f1.length q4)) HNE (.slice Q5 v.f3.f2.length q5))⟩
        rw [hv]
        clear hv
        refine hK _ _ ⟨⟨_, HLW.out⟩, rfl⟩ ?_
        clear hK K
        refine wpAnyH_done (by kernel_rfl) ?_ _
        go_wp2
        go_meet
        case rel => exact ⟨b6, b7, rfl, rfl, ⟨⟨HLW.out, Kb6.out, Kb7.out⟩⟩⟩
      · skip
        go_simp
        obtain ⟨u1, hv⟩ : ∃ x, wd.alloc (.cells #[.string ⟨#[]⟩, .int .i64 0, .int .i64 0, .int .i64 0, .slice none 0 0, .slice none 0 0] 40) = x := ⟨_, rfl⟩
        rw [hv]
        obtain ⟨b7, hg⟩ : ∃ x, wd.heap.size = x := ⟨_, rfl⟩
        rw [hg]
        have Kb7 : Aside0 (u1.heap[b7]? = some (.cells #[.string ⟨#[]⟩, .int .i64 0, .int .i64 0, .int .i64 0, .slice none 0 0, .slice none 0 0] 40 (0, 0))) := ⟨by rw [← hv, ← hg]; exact blk_new _ _⟩
        have ST : Aside0 (Below wd.heap.size wd u1) := ⟨hv ▸ below1 _ _⟩
        have Gb7 : Aside0 (w4.heap.size ≤ b7) := ⟨hg ▸ HLW.out.size⟩
        clear hv hg
        have HLW := Aside0.mk (join_below HLW.out ST.out)
        refine hK _ _ ⟨⟨_, HLW.out⟩, rfl⟩ ?_
        clear hK K ST
        refine hall1 (i := 10) (by kernel_rfl) (by rfl) (fun K hK => ?_)
        go_simp
        obtain ⟨u2, hv⟩ : ∃ x, u1.alloc (.cells #[.string ⟨#[]⟩, .int .i64 0, .int .i64 0, .int .i64 0, .slice none 0 0, .slice none 0 0] 40) = x := ⟨_, rfl⟩
        rw [hv]
        obtain ⟨b6, hg⟩ : ∃ x, u1.heap.size = x := ⟨_, rfl⟩
        rw [hg]
        have Kb6 : Aside0 (u2.heap[b6]? = some (.cells #[.string ⟨#[]⟩, .int .i64 0, .int .i64 0, .int .i64 0, .slice none 0 0, .slice none 0 0] 40 (0, 0))) := ⟨by rw [← hv, ← hg]; exact blk_new _ _⟩
        have ST : Aside0 (Below u1.heap.size u1 u2) := ⟨hv ▸ below1 _ _⟩
        have Gb6 : Aside0 (w4.heap.size ≤ b6) := ⟨hg ▸ HLW.out.size⟩
        have NE : Aside0 (b7 ≠ b6) := ⟨by have h := blk_lt Kb7.out; omega⟩
        have Kb7 := Aside0.mk (blk_below Kb7.out ST.out)
        clear hv hg
        have HLW := Aside0.mk (join_below HLW.out ST.out)
        refine hK _ _ ⟨⟨_, HLW.out⟩, rfl⟩ ?_
        clear hK K ST
        have y0 : World.cell? u2 ⟨b6, 0, none⟩ = some (.string ⟨#[]⟩) := (blk_cell Kb6.out 0).trans rfl
        have z0 := blk_frozen Kb6.out 0
        have y1 : World.cell? u2 ⟨b6, 1, none⟩ = some (.int .i64 0) := (blk_cell Kb6.out 1).trans rfl
        have z1 := blk_frozen Kb6.out 1
        have y2 : World.cell? u2 ⟨b6, 2, none⟩ = some (.int .i64 0) := (blk_cell Kb6.out 2).trans rfl
        have z2 := blk_frozen Kb6.out 2
        have y3 : World.cell? u2 ⟨b6, 3, none⟩ = some (.int .i64 0) := (blk_cell Kb6.out 3).trans rfl
        have z3 := blk_frozen Kb6.out 3
        have y4 : World.cell? u2 ⟨b6, 4, none⟩ = some (.slice none 0 0) := (blk_cell Kb6.out 4).trans rfl
        have z4 := blk_frozen Kb6.out 4
        have y5 : World.cell? u2 ⟨b6, 5, none⟩ = some (.slice none 0 0) := (blk_cell Kb6.out 5).trans rfl
        have z5 := blk_frozen Kb6.out 5
        refine hall1 (i := 12) (by kernel_rfl) (by rfl) (fun K hK => ?_)
        go_simp
        clear y0 z0 y1 z1 y2 z2 y3 z3 y4 z4 y5 z5
        obtain ⟨u3, hv⟩ : ∃ x, (World.setCell (World.setCell (World.setCell (World.setCell (World.setCell (World.setCell u2 ⟨b6, 0, none⟩ (.string u.f0)) ⟨b6, 1, none⟩ (.int .i64 u.f1)) ⟨b6, 2, none⟩ (.int .i64 u.f2)) ⟨b6, 3, none⟩ (.int .i64 u.f3.f0)) ⟨b6, 4, none⟩ (.slice P4 u.f3.f1.length p4)) ⟨b6, 5, none⟩ (.slice P5 u.f3.f2.length p5)) = x := ⟨_, rfl⟩
        have Kb6 : Aside0 (u3.heap[b6]? = some (.cells #[.string u.f0, .int .i64 u.f1, .int .i64 u.f2, .int .i64 u.f3.f0, .slice P4 u.f3.f1.length p4, .slice P5 u.f3.f2.length p5] 40 (0, 0))) := ⟨hv ▸ (blk_put (blk_put (blk_put (blk_put (blk_put (blk_put Kb6.out 0 (.string u.f0) rfl) 1 (.int .i64 u.f1) rfl) 2 (.int .i64 u.f2) rfl) 3 (.int .i64 u.f3.f0) rfl) 4 (.slice P4 u.f3.f1.length p4) rfl) 5 (.slice P5 u.f3.f2.length p5) rfl)⟩
        have HLW : Aside0 (Below w4.heap.size w4 u3) := ⟨hv ▸ ((((((HLW.out.setCell Gb6.out (.string u.f0)).setCell Gb6.out (.int .i64 u.f1)).setCell Gb6.out (.int .i64 u.f2)).setCell Gb6.out (.int .i64 u.f3.f0)).setCell Gb6.out (.slice P4 u.f3.f1.length p4)).setCell Gb6.out (.slice P5 u.f3.f2.length p5))⟩
        have Kb7 : Aside0 (u3.heap[b7]? = some (.cells #[.string ⟨#[]⟩, .int .i64 0, .int .i64 0, .int .i64 0, .slice none 0 0, .slice none 0 0] 40 (0, 0))) := ⟨by have HNE : b7 ≠ b6 := (by have h := NE.out; omega); exact hv ▸ (blk_far (blk_far (blk_far (blk_far (blk_far (blk_far Kb7.out HNE (.string u.f0)) HNE (.int .i64 u.f1)) HNE (.int .i64 u.f2)) HNE (.int .i64 u.f3.f0)) HNE (.slice P4 u.f3.f1.length p4)) HNE (.slice P5 u.f3.f2.length p5))⟩
        rw [hv]
        clear hv
        refine hK _ _ ⟨⟨_, HLW.out⟩, rfl⟩ ?_
        clear hK K
        have y0 : World.cell? u3 ⟨b7, 0, none⟩ = some (.string ⟨#[]⟩) := (blk_cell Kb7.out 0).trans rfl
        have z0 := blk_frozen Kb7.out 0
        have y1 : World.cell? u3 ⟨b7, 1, none⟩ = some (.int .i64 0) := (blk_cell Kb7.out 1).trans rfl
        have z1 := blk_frozen Kb7.out 1
        have y2 : World.cell? u3 ⟨b7, 2, none⟩ = some (.int .i64 0) := (blk_cell Kb7.out 2).trans rfl
        have z2 := blk_frozen Kb7.out 2
        have y3 : World.cell? u3 ⟨b7, 3, none⟩ = some (.int .i64 0) := (blk_cell Kb7.out 3).trans rfl
        have z3 := blk_frozen Kb7.out 3
        have y4 : World.cell? u3 ⟨b7, 4, none⟩ = some (.slice none 0 0) := (blk_cell Kb7.out 4).trans rfl
        have z4 := blk_frozen Kb7.out 4
        have y5 : World.cell? u3 ⟨b7, 5, none⟩ = some (.slice none 0 0) := (blk_cell Kb7.out 5).trans rfl
        have z5 := blk_frozen Kb7.out 5
        refine hall1 (i := 13) (by kernel_rfl) (by rfl) (fun K hK => ?_)
        go_simp
        clear y0 z0 y1 z1 y2 z2 y3 z3 y4 z4 y5 z5
        obtain ⟨u4, hv⟩ : ∃ x, (World.setCell (World.setCell (World.setCell (World.setCell (World.setCell (World.setCell u3 ⟨b7, 0, none⟩ (.string v.f0)) ⟨b7, 1, none⟩ (.int .i64 v.f1)) ⟨b7, 2, none⟩ (.int .i64 v.f2)) ⟨b7, 3, none⟩ (.int .i64 v.f3.f0)) ⟨b7, 4, none⟩ (.slice Q4 v.f3.f1.length q4)) ⟨b7, 5, none⟩ (.slice Q5 v.f3.f2.length q5)) = x := ⟨_, rfl⟩
        have Kb7 : Aside0 (u4.heap[b7]? = some (.cells #[.string v.f0, .int .i64 v.f1, .int .i64 v.f2, .int .i64 v.f3.f0, .slice Q4 v.f3.f1.length q4, .slice Q5 v.f3.f2.length q5] 40 (0, 0))) := ⟨hv ▸ (blk_put (blk_put (blk_put (blk_put (blk_put (blk_put Kb7.out 0 (.string v.f0) rfl) 1 (.int .i64 v.f1) rfl) 2 (.int .i64 v.f2) rfl) 3 (.int .i64 v.f3.f0) rfl) 4 (.slice Q4 v.f3.f1.length q4) rfl) 5 (.slice Q5 v.f3.f2.length q5) rfl)⟩
        have HLW : Aside0 (Below w4.heap.size w4 u4) := ⟨hv ▸ ((((((HLW.out.setCell Gb7.out (.string v.f0)).setCell Gb7.out (.int .i64 v.f1)).setCell Gb7.out (.int .i64 v.f2)).setCell Gb7.out (.int .i64 v.f3.f0)).setCell Gb7.out (.slice Q4 v.f3.f1.length q4)).setCell Gb7.out (.slice Q5 v.f3.f2.length q5))⟩
        have Kb6 : Aside0 (u4.heap[b6]? = some (.cells #[.string u.f0, .int .i64 u.f1, .int .i64 u.f2, .int .i64 u.f3.f0, .slice P4 u.f3.f1.length p4, .slice P5 u.f3.f2.length p5] 40 (0, 0))) := ⟨by have HNE : b6 ≠ b7 := (by have h := NE.out; omega); exact hv ▸ (blk_far (blk_far (blk_far (blk_far (blk_far (blk_far Kb6.out HNE (.string v.f0)) HNE (.int .i64 v.f1)) HNE (.int .i64 v.f2)) HNE (.int .i64 v.f3.f0)) HNE (.slice Q4 v.f3.f1.length q4)) HNE (.slice Q5 v.f3.f2.length q5))⟩
        rw [hv]
        clear hv
        refine hK _ _ ⟨⟨_, HLW.out⟩, rfl⟩ ?_
        clear hK K
        refine wpAnyH_done (by kernel_rfl) ?_ _
        go_wp2
        go_meet
        case rel => exact ⟨b6, b7, rfl, rfl, ⟨⟨HLW.out, Kb6.out, Kb7.out⟩⟩⟩
     obtain ⟨b6, b7, rfl, rfl, HC⟩ := hcut
     obtain ⟨w5, hw5⟩ : ∃ z, wc = z := ⟨_, rfl⟩
     rw [hw5] at HC ⊢
     clear hw5 hwd HLW g0 g1 s0 s1 s2 s3 s4 s5 r0 r1 r2 r3 r4 r5
     have HB5 := Aside0.mk (join_below HB4.out HC.out.1)
     have s0 : w5.cell? ⟨b6, 0, none⟩ = some (.string u.f0) := (blk_cell HC.out.2.1 0).trans rfl
     have r0 : w5.cell? ⟨b7, 0, none⟩ = some (.string v.f0) := (blk_cell HC.out.2.2 0).trans rfl
     have s1 : w5.cell? ⟨b6, 1, none⟩ = some (.int .i64 u.f1) := (blk_cell HC.out.2.1 1).trans rfl
     have r1 : w5.cell? ⟨b7, 1, none⟩ = some (.int .i64 v.f1) := (blk_cell HC.out.2.2 1).trans rfl
     have s2 : w5.cell? ⟨b6, 2, none⟩ = some (.int .i64 u.f2) := (blk_cell HC.out.2.1 2).trans rfl
     have r2 : w5.cell? ⟨b7, 2, none⟩ = some (.int .i64 v.f2) := (blk_cell HC.out.2.2 2).trans rfl
     have s3 : w5.cell? ⟨b6, 3, none⟩ = some (.int .i64 u.f3.f0) := (blk_cell HC.out.2.1 3).trans rfl
     have r3 : w5.cell? ⟨b7, 3, none⟩ = some (.int .i64 v.f3.f0) := (blk_cell HC.out.2.2 3).trans rfl
     have s4 : w5.cell? ⟨b6, 4, none⟩ = some (.slice P4 u.f3.f1.length p4) := (blk_cell HC.out.2.1 4).trans rfl
     have r4 : w5.cell? ⟨b7, 4, none⟩ = some (.slice Q4 v.f3.f1.length q4) := (blk_cell HC.out.2.2 4).trans rfl
     have s5 : w5.cell? ⟨b6, 5, none⟩ = some (.slice P5 u.f3.f2.length p5) := (blk_cell HC.out.2.1 5).trans rfl
     have r5 : w5.cell? ⟨b7, 5, none⟩ = some (.slice Q5 v.f3.f2.length q5) := (blk_cell HC.out.2.2 5).trans rfl
     cases q0 : (u.f0.toList == v.f0.toList)
     case false =>
      have q0b : (u.f0.toList != v.f0.toList) = true := by rw [bne, q0]; rfl
      have HRR : Aside0 (res = false) := ⟨by rw [← HR2.out, ← HAT.out]; unfold sameTok; rw [q0]; simp⟩
      go_wp2
      go_ret
      rw [HRR.out]
      exact ⟨rfl, HB5.out⟩
     have q0b : (u.f0.toList != v.f0.toList) = false := by rw [bne, q0]; rfl
     cases q1 : (u.f1 == v.f1)
     case false =>
      have q1b : (u.f1 != v.f1) = true := by rw [bne, q1]; rfl
      have HRR : Aside0 (res = false) := ⟨by rw [← HR2.out, ← HAT.out]; unfold sameTok; rw [q0, q1]; simp⟩
      go_wp2
      go_ret
      rw [HRR.out]
      exact ⟨rfl, HB5.out⟩
     have q1b : (u.f1 != v.f1) = false := by rw [bne, q1]; rfl
     cases q2 : (u.f2 == v.f2)
     case false =>
      have q2b : (u.f2 != v.f2) = true := by rw [bne, q2]; rfl
      have HRR : Aside0 (res = false) := ⟨by rw [← HR2.out, ← HAT.out]; unfold sameTok; rw [q0, q1, q2]; simp⟩
      go_wp2
      go_ret
      rw [HRR.out]
      exact ⟨rfl, HB5.out⟩
     have q2b : (u.f2 != v.f2) = false := by rw [bne, q2]; rfl
     have HA2 : Aside0 ((sameRe u.f3 v.f3 && eqL sameTok (T.drop (m + 1)) (T'.drop (m + 1))) = rt) := ⟨by rw [← HAT.out]; unfold sameTok; rw [q0, q1, q2]; simp⟩
     go_wp2_with fail
     refine (rsame6_any u.f3 v.f3 W w5 _ _ HB5.out HKU.out HKV.out HSU.out).mono ?_
     rintro e w6 ⟨rfl, hb⟩
     have HB6 := Aside0.mk (join_below HC.out.1 hb)
     clear hb q0 q1 q2 q0b q1b q2b s0 s1 s2 s3 s4 s5 r0 r1 r2 r3 r4 r5
     cases hsm : sameRe u.f3 v.f3
     · have HRR : Aside0 (res = false) := ⟨by rw [← HR2.out, ← HA2.out, hsm]; rfl⟩
       clear hsm
       go_wp2
       go_ret
       rw [HRR.out]
       exact ⟨rfl, join_below HB4.out HB6.out⟩
     · have HA3 : Aside0 (eqL sameTok (T.drop (m + 1)) (T'.drop (m + 1)) = rt) := ⟨by rw [← HA2.out, hsm]; rfl⟩
       clear hsm
       go_wp2
       go_roundw
       case rel => exact ⟨m + 1, by go_num, HLM.out, ⟨⟨join_below HS.out.1 HB6.out, HA3.out⟩⟩⟩
       case measure => have := HLM.out; simp [intOf]; omega
   · have e1 : decide (m < T.length) = false := decide_eq_false hlt
     have HF : Aside0 (Below w1.heap.size w1 w4 ∧ rt = true) := ⟨HS.out.1, by
      have h := HS.out.2
      rw [List.drop_of_length_le (by omega), List.drop_of_length_le (by have := HLT.out; omega)] at h
      exact h.symm⟩
     clear hlt
     go_wp2
     go_meet
     case rel => exact HF
 case rest =>
  obtain ⟨w2, hw2⟩ : ∃ z, wc = z := ⟨_, rfl⟩
  rw [hw2] at hcut ⊢
  clear hw2
  have HB12 := Aside0.mk hcut.out.1
  have HB2 := Aside0.mk (join_below HB0.out hcut.out.1)
  have HR3 : Aside0 (eqL sameRul (R.drop 0) (R'.drop 0) = res) := ⟨by rw [← HR2.out, hcut.out.2]; rfl⟩
  clear hcut HR2 HRT
  go_wp2_with fail
  go_loopw [8] (fun i w => ∃ m : Nat, i = .int .i64 (m : Int) ∧ m ≤ R.length ∧ Aside0 (Below w2.heap.size w2 w ∧ eqL sameRul (R.drop m) (R'.drop m) = res)) (fun i _ => R.length - (intOf i).toNat)
  case atStart => exact ⟨0, rfl, Nat.zero_le _, ⟨⟨Below.refl _ _, HR3.out⟩⟩⟩
  case round =>
   obtain ⟨m, rfl, hm, HS⟩ := hrel
   obtain ⟨w4, hw4⟩ : ∃ z, wr = z := ⟨_, rfl⟩
   rw [hw4] at HS ⊢
   clear hw4
   have HB4 := Aside0.mk (join_below HB2.out HS.out.1)
   have HB14 := Aside0.mk (join_below HB12.out HS.out.1)
   have y3 : w4.cell? ⟨bg, 1, none⟩ = some (.slice A1 R.length c1) := (blk_cell (blk_below HKX.out HB14.out) 1).trans rfl
   by_cases hlt : m < R.length
   · have e1 : decide (m < R.length) = true := decide_eq_true hlt
     have hil : (m : Int) < R.length := by omega
     have hil2 : (m : Int) < R'.length := by have := HLR.out; omega
     obtain ⟨g, og, hA, _, hcell⟩ := row_cells HA1.out (by omega) (by decide)
     subst hA
     obtain ⟨g2, og2, hA, _, hcell2⟩ := row_cells HB1'.out (by have := HLR.out; omega) (by decide)
     subst hA
     obtain ⟨u, hu⟩ : ∃ u, R[m]? = some u := ⟨_, List.getElem?_eq_getElem hlt⟩
     obtain ⟨v, hv⟩ : ∃ v, R'[m]? = some v := ⟨_, List.getElem?_eq_getElem (by have := HLR.out; omega)⟩
     obtain ⟨cs, _, hK, hcc⟩ := hcell m u hu
     obtain ⟨ds, _, hK2, hcc2⟩ := hcell2 m v hv
     obtain ⟨P2, p2, rfl, k2, h2⟩ := k43_open hK
     obtain ⟨Q2, q2, rfl, j2, i2⟩ := k43_open hK2
     have HCU := Aside0.mk h2
     have HCV := Aside0.mk i2
     have hlS : u.f2.length ≤ 9223372036854775807 := h2.2.1
     have HCC := Aside0.mk (And.intro hcc hcc2)
     have HLM := Aside0.mk hlt
     have HAT := Aside0.mk ((eqL_at sameRul hu hv).symm.trans HS.out.2)
     clear hcell hcell2 hcc hcc2 hK hK2 hu hv hlt k2 h2 j2 i2
     go_upto_region 12 with (fail)
     clear e1 y3
     have g0 : ∀ p : Later w4, p.wx.cell? ⟨bg, 1, none⟩ = some (.slice (some ⟨g, og, none⟩) R.length c1) := fun p => (blk_cell (blk_below HKX.out (join_below HB14.out p.below)) 1).trans rfl
     have g1 : ∀ p : Later w4, p.wx.cell? ⟨bg + 1, 1, none⟩ = some (.slice (some ⟨g2, og2, none⟩) R'.length d1) := fun p => (blk_cell (blk_below HKY.out (join_below HB14.out p.below)) 1).trans rfl
     have s0 : ∀ p : Later w4, p.wx.cell? ⟨g, og + m * 3 + 0, none⟩ = some (.int .i64 u.f0) := fun p => cell_after p.below (cell_after HB4.out (HCC.out.1 0 _ rfl))
     have r0 : ∀ p : Later w4, p.wx.cell? ⟨g2, og2 + m * 3 + 0, none⟩ = some (.int .i64 v.f0) := fun p => cell_after p.below (cell_after HB4.out (HCC.out.2 0 _ rfl))
     have s1 : ∀ p : Later w4, p.wx.cell? ⟨g, og + m * 3 + 1, none⟩ = some (.bool u.f1) := fun p => cell_after p.below (cell_after HB4.out (HCC.out.1 1 _ rfl))
     have r1 : ∀ p : Later w4, p.wx.cell? ⟨g2, og2 + m * 3 + 1, none⟩ = some (.bool v.f1) := fun p => cell_after p.below (cell_after HB4.out (HCC.out.2 1 _ rfl))
     have s2 : ∀ p : Later w4, p.wx.cell? ⟨g, og + m * 3 + 2, none⟩ = some (.slice P2 u.f2.length p2) := fun p => cell_after p.below (cell_after HB4.out (HCC.out.1 2 _ rfl))
     have r2 : ∀ p : Later w4, p.wx.cell? ⟨g2, og2 + m * 3 + 2, none⟩ = some (.slice Q2 v.f2.length q2) := fun p => cell_after p.below (cell_after HB4.out (HCC.out.2 2 _ rfl))
     simp only [Nat.add_zero] at s0 r0
     obtain ⟨wd, hwd⟩ : ∃ z, w4.drew = z := ⟨_, rfl⟩
     have HLW : Aside0 (Below w4.heap.size w4 wd) := ⟨hwd ▸ below_drew1 (Below.refl _ _)⟩
     go_cut [9, 10] (fun a b w' => ∃ b6 b7, a = .pointer (some ⟨b6, 0, none⟩) ∧ b = .pointer (some ⟨b7, 0, none⟩) ∧ Aside0 (Below w4.heap.size w4 w' ∧ w'.heap[b6]? = some (.cells #[.int .i64 u.f0, .bool u.f1, .slice P2 u.f2.length p2] 43 (0, 0)) ∧ w'.heap[b7]? = some (.cells #[.int .i64 v.f0, .bool v.f1, .slice Q2 v.f2.length q2] 43 (0, 0))))
     case first =>
      refine wp_region_held (S := fun w' => ∃ p : Later w4, w' = p.wx) (by kernel_rfl) ?_
      change wpAnyH _ _ _ _ _ _ _ _ (World.drew _)
      rw [hwd]
      clear hwd
      iterate 8 ((first | refine takeR (i := 0) (by decide +kernel) (by rfl) ?_ ?_ ?_ | refine takeR (i := 1) (by decide +kernel) (by rfl) ?_ ?_ ?_ | refine takeR (i := 2) (by decide +kernel) (by rfl) ?_ ?_ ?_ | refine takeR (i := 3) (by decide +kernel) (by rfl) ?_ ?_ ?_ | refine takeR (i := 4) (by decide +kernel) (by rfl) ?_ ?_ ?_ | refine takeR (i := 5) (by decide +kernel) (by rfl) ?_ ?_ ?_ | refine takeR (i := 6) (by decide +kernel) (by rfl) ?_ ?_ ?_ | refine takeR (i := 7) (by decide +kernel) (by rfl) ?_ ?_ ?_); (focus first | exact fun _ _ _ _ h => h | exact fun _ _ _ _ h => HPQ.out _ _ _ _ (by rfl) h); (focus exact ⟨⟨_, HLW.out⟩, rfl⟩); intro K hK; go_simp; (with_reducible refine hK _ ?_); clear hK K)
      iterate 2 ((first | refine takeR (i := 8) (by decide +kernel) (by rfl) ?_ ?_ ?_ | refine takeR (i := 9) (by decide +kernel) (by rfl) ?_ ?_ ?_); (focus first | exact fun _ _ _ _ h => h | exact fun _ _ _ _ h => HPQ.out _ _ _ _ (by rfl) h); (focus exact ⟨⟨_, HLW.out⟩, rfl⟩); intro K hK; go_simp; (with_reducible refine hK _ ?_); clear hK K)
      refine hall2 (i := 10) (j := 11) (by kernel_rfl) (by rfl) (by rfl) (fun K hK => ?_) (fun K hK => ?_)
      · skip
        go_simp
        obtain ⟨u1, hv⟩ : ∃ x, wd.alloc (.cells #[.int .i64 0, .bool false, .slice none 0 0] 43) = x := ⟨_, rfl⟩
        rw [hv]
        obtain ⟨b6, hg⟩ : ∃ x, wd.heap.size = x := ⟨_, rfl⟩
        rw [hg]
        have Kb6 : Aside0 (u1.heap[b6]? = some (.cells #[.int .i64 0, .bool false, .slice none 0 0] 43 (0, 0))) := ⟨by rw [← hv, ← hg]; exact blk_new _ _⟩
        have ST : Aside0 (Below wd.heap.size wd u1) := ⟨hv ▸ below1 _ _⟩
        have Gb6 : Aside0 (w4.heap.size ≤ b6) := ⟨hg ▸ HLW.out.size⟩
        clear hv hg
        have HLW := Aside0.mk (join_below HLW.out ST.out)
        refine hK _ _ ⟨⟨_, HLW.out⟩, rfl⟩ ?_
        clear hK K ST
        refine hall1 (i := 11) (by kernel_rfl) (by rfl) (fun K hK => ?_)
        go_simp
        obtain ⟨u2, hv⟩ : ∃ x, u1.alloc (.cells #[.int .i64 0, .bool false, .slice none 0 0] 43) = x := ⟨_, rfl⟩
        rw [hv]
        obtain ⟨b7, hg⟩ : ∃ x, u1.heap.size = x := ⟨_, rfl⟩
        rw [hg]
        have Kb7 : Aside0 (u2.heap[b7]? = some (.cells #[.int .i64 0, .bool false, .slice none 0 0] 43 (0, 0))) := ⟨by rw [← hv, ← hg]; exact blk_new _ _⟩
        have ST : Aside0 (Below u1.heap.size u1 u2) := ⟨hv ▸ below1 _ _⟩
        have Gb7 : Aside0 (w4.heap.size ≤ b7) := ⟨hg ▸ HLW.out.size⟩
        have NE : Aside0 (b6 ≠ b7) := ⟨by have h := blk_lt Kb6.out; omega⟩
        have Kb6 := Aside0.mk (blk_below Kb6.out ST.out)
        clear hv hg
        have HLW := Aside0.mk (join_below HLW.out ST.out)
        refine hK _ _ ⟨⟨_, HLW.out⟩, rfl⟩ ?_
        clear hK K ST
        have y0 : World.cell? u2 ⟨b6, 0, none⟩ = some (.int .i64 0) := (blk_cell Kb6.out 0).trans rfl
        have z0 := blk_frozen Kb6.out 0
        have y1 : World.cell? u2 ⟨b6, 1, none⟩ = some (.bool false) := (blk_cell Kb6.out 1).trans rfl
        have z1 := blk_frozen Kb6.out 1
        have y2 : World.cell? u2 ⟨b6, 2, none⟩ = some (.slice none 0 0) := (blk_cell Kb6.out 2).trans rfl
        have z2 := blk_frozen Kb6.out 2
        refine hall1 (i := 12) (by kernel_rfl) (by rfl) (fun K hK => ?_)
        go_simp
        clear y0 z0 y1 z1 y2 z2
        obtain ⟨u3, hv⟩ : ∃ x, (World.setCell (World.setCell (World.setCell u2 ⟨b6, 0, none⟩ (.int .i64 u.f0)) ⟨b6, 1, none⟩ (.bool u.f1)) ⟨b6, 2, none⟩ (.slice P2 u.f2.length p2)) = x := ⟨_, rfl⟩
        have Kb6 : Aside0 (u3.heap[b6]? = some (.cells #[.int .i64 u.f0, .bool u.f1, .slice P2 u.f2.length p2] 43 (0, 0))) := ⟨hv ▸ (blk_put (blk_put (blk_put Kb6.out 0 (.int .i64 u.f0) rfl) 1 (.bool u.f1) rfl) 2 (.slice P2 u.f2.length p2) rfl)⟩
        have HLW : Aside0 (Below w4.heap.size w4 u3) := ⟨hv ▸ (((HLW.out.setCell Gb6.out (.int .i64 u.f0)).setCell Gb6.out (.bool u.f1)).setCell Gb6.out (.slice P2 u.f2.length p2))⟩
        have Kb7 : Aside0 (u3.heap[b7]? = some (.cells #[.int .i64 0, .bool false, .slice none 0 0] 43 (0, 0))) := ⟨by have HNE : b7 ≠ b6 := (by have h := NE.out; omega); exact hv ▸ (blk_far (blk_far (blk_far Kb7.out HNE (.int .i64 u.f0)) HNE (.bool u.f1)) HNE (.slice P2 u.f2.length p2))⟩
        rw [hv]
        clear hv
        refine hK _ _ ⟨⟨_, HLW.out⟩, rfl⟩ ?_
        clear hK K
        have y0 : World.cell? u3 ⟨b7, 0, none⟩ = some (.int .i64 0) := (blk_cell Kb7.out 0).trans rfl
        have z0 := blk_frozen Kb7.out 0
        have y1 : World.cell? u3 ⟨b7, 1, none⟩ = some (.bool false) := (blk_cell Kb7.out 1).trans rfl
        have z1 := blk_frozen Kb7.out 1
        have y2 : World.cell? u3 ⟨b7, 2, none⟩ = some (.slice none 0 0) := (blk_cell Kb7.out 2).trans rfl
        have z2 := blk_frozen Kb7.out 2
        refine hall1 (i := 13) (by kernel_rfl) (by rfl) (fun K hK => ?_)
        go_simp
        clear y0 z0 y1 z1 y2 z2
        obtain ⟨u4, hv⟩ : ∃ x, (World.setCell (World.setCell (World.setCell u3 ⟨b7, 0, none⟩ (.int .i64 v.f0)) ⟨b7, 1, none⟩ (.bool v.f1)) ⟨b7, 2, none⟩ (.slice Q2 v.f2.length q2)) = x := ⟨_, rfl⟩
        have Kb7 : Aside0 (u4.heap[b7]? = some (.cells #[.int .i64 v.f0, .bool v.f1, .slice Q2 v.f2.length q2] 43 (0, 0))) := ⟨hv ▸ (blk_put (blk_put (blk_put Kb7.out 0 (.int .i64 v.f0) rfl) 1 (.bool v.f1) rfl) 2 (.slice Q2 v.f2.length q2) rfl)⟩
        have HLW : Aside0 (Below w4.heap.size w4 u4) := ⟨hv ▸ (((HLW.out.setCell Gb7.out (.int .i64 v.f0)).setCell Gb7.out (.bool v.f1)).setCell Gb7.out (.slice Q2 v.f2.length q2))⟩
        have Kb6 : Aside0 (u4.heap[b6]? = some (.cells #[.int .i64 u.f0, .bool u.f1, .slice P2 u.f2.length p2] 43 (0, 0))) := ⟨by have HNE : b6 ≠ b7 := (by have h := NE.out; omega); exact hv ▸ (blk_far (blk_far (blk_far Kb6.out HNE (.int .i64 v.f0)) HNE (.bool v.f1)) HNE (.slice Q2 v.f2.length q2))⟩
        rw [hv]
        clear hv
        refine hK _ _ ⟨⟨_, HLW.out⟩, rfl⟩ ?_
        clear hK K
        refine wpAnyH_done (by kernel_rfl) ?_ _
        go_wp2
        go_meet
        case rel => exact ⟨b6, b7, rfl, rfl, ⟨⟨HLW.out, Kb6.out, Kb7.out⟩⟩⟩
      · skip
        go_simp
        obtain ⟨u1, hv⟩ : ∃ x, wd.alloc (.cells #[.int .i64 0, .bool false, .slice none 0 0] 43) = x := ⟨_, rfl⟩
        rw [hv]
        obtain ⟨b7, hg⟩ : ∃ x, wd.heap.size = x := ⟨_, rfl⟩
        rw [hg]
        have Kb7 : Aside0 (u1.heap[b7]? = some (.cells #[.int .i64 0, .bool false, .slice none 0 0] 43 (0, 0))) := ⟨by rw [← hv, ← hg]; exact blk_new _ _⟩
        have ST : Aside0 (Below wd.heap.size wd u1) := ⟨hv ▸ below1 _ _⟩
        have Gb7 : Aside0 (w4.heap.size ≤ b7) := ⟨hg ▸ HLW.out.size⟩
        clear hv hg
        have HLW := Aside0.mk (join_below HLW.out ST.out)
        refine hK _ _ ⟨⟨_, HLW.out⟩, rfl⟩ ?_
        clear hK K ST
        refine hall1 (i := 10) (by kernel_rfl) (by rfl) (fun K hK => ?_)
        go_simp
        obtain ⟨u2, hv⟩ : ∃ x, u1.alloc (.cells #[.int .i64 0, .bool false, .slice none 0 0] 43) = x := ⟨_, rfl⟩
        rw [hv]
        obtain ⟨b6, hg⟩ : ∃ x, u1.heap.size = x := ⟨_, rfl⟩
        rw [hg]
        have Kb6 : Aside0 (u2.heap[b6]? = some (.cells #[.int .i64 0, .bool false, .slice none 0 0] 43 (0, 0))) := ⟨by rw [← hv, ← hg]; exact blk_new _ _⟩
        have ST : Aside0 (Below u1.heap.size u1 u2) := ⟨hv ▸ below1 _ _⟩
        have Gb6 : Aside0 (w4.heap.size ≤ b6) := ⟨hg ▸ HLW.out.size⟩
        have NE : Aside0 (b7 ≠ b6) := ⟨by have h := blk_lt Kb7.out; omega⟩
        have Kb7 := Aside0.mk (blk_below Kb7.out ST.out)
        clear hv hg
        have HLW := Aside0.mk (join_below HLW.out ST.out)
        refine hK _ _ ⟨⟨_, HLW.out⟩, rfl⟩ ?_
        clear hK K ST
        have y0 : World.cell? u2 ⟨b6, 0, none⟩ = some (.int .i64 0) := (blk_cell Kb6.out 0).trans rfl
        have z0 := blk_frozen Kb6.out 0
        have y1 : World.cell? u2 ⟨b6, 1, none⟩ = some (.bool false) := (blk_cell Kb6.out 1).trans rfl
        have z1 := blk_frozen Kb6.out 1
        have y2 : World.cell? u2 ⟨b6, 2, none⟩ = some (.slice none 0 0) := (blk_cell Kb6.out 2).trans rfl
        have z2 := blk_frozen Kb6.out 2
        refine hall1 (i := 12) (by kernel_rfl) (by rfl) (fun K hK => ?_)
        go_simp
        clear y0 z0 y1 z1 y2 z2
        obtain ⟨u3, hv⟩ : ∃ x, (World.setCell (World.setCell (World.setCell u2 ⟨b6, 0, none⟩ (.int .i64 u.f0)) ⟨b6, 1, none⟩ (.bool u.f1)) ⟨b6, 2, none⟩ (.slice P2 u.f2.length p2)) = x := ⟨_, rfl⟩
        have Kb6 : Aside0 (u3.heap[b6]? = some (.cells #[.int .i64 u.f0, .bool u.f1, .slice P2 u.f2.length p2] 43 (0, 0))) := ⟨hv ▸ (blk_put (blk_put (blk_put Kb6.out 0 (.int .i64 u.f0) rfl) 1 (.bool u.f1) rfl) 2 (.slice P2 u.f2.length p2) rfl)⟩
        have HLW : Aside0 (Below w4.heap.size w4 u3) := ⟨hv ▸ (((HLW.out.setCell Gb6.out (.int .i64 u.f0)).setCell Gb6.out (.bool u.f1)).setCell Gb6.out (.slice P2 u.f2.length p2))⟩
        have Kb7 : Aside0 (u3.heap[b7]? = some (.cells #[.int .i64 0, .bool false, .slice none 0 0] 43 (0, 0))) := ⟨by have HNE : b7 ≠ b6 := (by have h := NE.out; omega); exact hv ▸ (blk_far (blk_far (blk_far Kb7.out HNE (.int .i64 u.f0)) HNE (.bool u.f1)) HNE (.slice P2 u.f2.length p2))⟩
        rw [hv]
        clear hv
        refine hK _ _ ⟨⟨_, HLW.out⟩, rfl⟩ ?_
        clear hK K
        have y0 : World.cell? u3 ⟨b7, 0, none⟩ = some (.int .i64 0) := (blk_cell Kb7.out 0).trans rfl
        have z0 := blk_frozen Kb7.out 0
        have y1 : World.cell? u3 ⟨b7, 1, none⟩ = some (.bool false) := (blk_cell Kb7.out 1).trans rfl
        have z1 := blk_frozen Kb7.out 1
        have y2 : World.cell? u3 ⟨b7, 2, none⟩ = some (.slice none 0 0) := (blk_cell Kb7.out 2).trans rfl
        have z2 := blk_frozen Kb7.out 2
        refine hall1 (i := 13) (by kernel_rfl) (by rfl) (fun K hK => ?_)
        go_simp
        clear y0 z0 y1 z1 y2 z2
        obtain ⟨u4, hv⟩ : ∃ x, (World.setCell (World.setCell (World.setCell u3 ⟨b7, 0, none⟩ (.int .i64 v.f0)) ⟨b7, 1, none⟩ (.bool v.f1)) ⟨b7, 2, none⟩ (.slice Q2 v.f2.length q2)) = x := ⟨_, rfl⟩
        have Kb7 : Aside0 (u4.heap[b7]? = some (.cells #[.int .i64 v.f0, .bool v.f1, .slice Q2 v.f2.length q2] 43 (0, 0))) := ⟨hv ▸ (blk_put (blk_put (blk_put Kb7.out 0 (.int .i64 v.f0) rfl) 1 (.bool v.f1) rfl) 2 (.slice Q2 v.f2.length q2) rfl)⟩
        have HLW : Aside0 (Below w4.heap.size w4 u4) := ⟨hv ▸ (((HLW.out.setCell Gb7.out (.int .i64 v.f0)).setCell Gb7.out (.bool v.f1)).setCell Gb7.out (.slice Q2 v.f2.length q2))⟩
        have Kb6 : Aside0 (u4.heap[b6]? = some (.cells #[.int .i64 u.f0, .bool u.f1, .slice P2 u.f2.length p2] 43 (0, 0))) := ⟨by have HNE : b6 ≠ b7 := (by have h := NE.out; omega); exact hv ▸ (blk_far (blk_far (blk_far Kb6.out HNE (.int .i64 v.f0)) HNE (.bool v.f1)) HNE (.slice Q2 v.f2.length q2))⟩
        rw [hv]
        clear hv
        refine hK _ _ ⟨⟨_, HLW.out⟩, rfl⟩ ?_
        clear hK K
        refine wpAnyH_done (by kernel_rfl) ?_ _
        go_wp2
        go_meet
        case rel => exact ⟨b6, b7, rfl, rfl, ⟨⟨HLW.out, Kb6.out, Kb7.out⟩⟩⟩
     obtain ⟨b6, b7, rfl, rfl, HC⟩ := hcut
     obtain ⟨w5, hw5⟩ : ∃ z, wc = z := ⟨_, rfl⟩
     rw [hw5] at HC ⊢
     clear hw5 hwd HLW g0 g1 s0 s1 s2 r0 r1 r2
     have HB5 := Aside0.mk (join_below HB4.out HC.out.1)
     have s0 : w5.cell? ⟨b6, 0, none⟩ = some (.int .i64 u.f0) := (blk_cell HC.out.2.1 0).trans rfl
     have r0 : w5.cell? ⟨b7, 0, none⟩ = some (.int .i64 v.f0) := (blk_cell HC.out.2.2 0).trans rfl
     have s1 : w5.cell? ⟨b6, 1, none⟩ = some (.bool u.f1) := (blk_cell HC.out.2.1 1).trans rfl
     have r1 : w5.cell? ⟨b7, 1, none⟩ = some (.bool v.f1) := (blk_cell HC.out.2.2 1).trans rfl
     have s2 : w5.cell? ⟨b6, 2, none⟩ = some (.slice P2 u.f2.length p2) := (blk_cell HC.out.2.1 2).trans rfl
     have r2 : w5.cell? ⟨b7, 2, none⟩ = some (.slice Q2 v.f2.length q2) := (blk_cell HC.out.2.2 2).trans rfl
     cases q0 : (u.f0 == v.f0)
     case false =>
      have q0b : (u.f0 != v.f0) = true := by rw [bne, q0]; rfl
      have HRR : Aside0 (res = false) := ⟨by rw [← HAT.out]; unfold sameRul; rw [q0]; simp⟩
      go_wp2
      go_ret
      rw [HRR.out]
      exact ⟨rfl, HB5.out⟩
     have q0b : (u.f0 != v.f0) = false := by rw [bne, q0]; rfl
     cases q1 : (u.f1 == v.f1)
     case false =>
      have q1b : (u.f1 != v.f1) = true := by rw [bne, q1]; rfl
      have HRR : Aside0 (res = false) := ⟨by rw [← HAT.out]; unfold sameRul; rw [q0, q1]; simp⟩
      go_wp2
      go_ret
      rw [HRR.out]
      exact ⟨rfl, HB5.out⟩
     have q1b : (u.f1 != v.f1) = false := by rw [bne, q1]; rfl
     by_cases hsl : u.f2.length = v.f2.length
     case neg =>
      have t1 : ((u.f2.length : Int) == (v.f2.length : Int)) = false := beq_eq_false_iff_ne.2 (by omega)
      have t1b : ((u.f2.length : Int) != (v.f2.length : Int)) = true := by rw [bne, t1]; rfl
      have HRR : Aside0 (res = false) := ⟨by rw [← HAT.out]; unfold sameRul; rw [q0, q1, eqL_len sameStp hsl]; simp⟩
      clear hsl
      go_wp2
      go_ret
      rw [HRR.out]
      exact ⟨rfl, HB5.out⟩
     have t1 : ((u.f2.length : Int) == (v.f2.length : Int)) = true := beq_iff_eq.2 (by omega)
     have t1b : ((u.f2.length : Int) != (v.f2.length : Int)) = false := by rw [bne, t1]; rfl
     have HSL := Aside0.mk hsl
     have HA2 : Aside0 ((eqL sameStp (u.f2.drop 0) (v.f2.drop 0) && eqL sameRul (R.drop (m + 1)) (R'.drop (m + 1))) = res) := ⟨by rw [← HAT.out]; unfold sameRul; rw [q0, q1]; simp⟩
     clear hsl
     go_wp2_with fail
     clear q0 q1 q0b q1b t1 t1b s0 s1 s2 r0 r1 r2 HAT
     go_loopw [11] (fun i w => ∃ n : Nat, i = .int .i64 (n : Int) ∧ n ≤ u.f2.length ∧ Aside0 (Below w5.heap.size w5 w ∧ (eqL sameStp (u.f2.drop n) (v.f2.drop n) && eqL sameRul (R.drop (m + 1)) (R'.drop (m + 1))) = res)) (fun i _ => u.f2.length - (intOf i).toNat)
     case atStart => exact ⟨0, rfl, Nat.zero_le _, ⟨⟨Below.refl _ _, HA2.out⟩⟩⟩
     case round =>
      obtain ⟨n, rfl, hn, HN⟩ := hrel
      obtain ⟨w6, hw6⟩ : ∃ z, wr = z := ⟨_, rfl⟩
      rw [hw6] at HN ⊢
      clear hw6
      have HB6 := Aside0.mk (join_below HB5.out HN.out.1)
      have s2 : w6.cell? ⟨b6, 2, none⟩ = some (.slice P2 u.f2.length p2) := (blk_cell (blk_below HC.out.2.1 HN.out.1) 2).trans rfl
      by_cases hlt : n < u.f2.length
      · have e1 : decide (n < u.f2.length) = true := decide_eq_true hlt
        have hin : (n : Int) < u.f2.length := by omega
        have hin2 : (n : Int) < v.f2.length := by have := HSL.out; omega
        obtain ⟨gs, os, hA, _, hcell⟩ := row_cells HCU.out (by omega) (by decide)
        subst hA
        obtain ⟨gt, ot, hA, _, hcell2⟩ := row_cells HCV.out (by have := HSL.out; omega) (by decide)
        subst hA
        obtain ⟨s, hs⟩ : ∃ s, u.f2[n]? = some s := ⟨_, List.getElem?_eq_getElem hlt⟩
        obtain ⟨t, ht⟩ : ∃ t, v.f2[n]? = some t := ⟨_, List.getElem?_eq_getElem (by have := HSL.out; omega)⟩
        obtain ⟨cs, _, hK, hcc⟩ := hcell n s hs
        obtain ⟨ds, _, hK2, hcc2⟩ := hcell2 n t ht
        obtain ⟨M0, m0, M2, m2, M3, m3, M4, m4, rfl, k0, h0, k2, h2, k3, h3, k4, h4⟩ := k49_open hK
        obtain ⟨N0, n0, N2, n2, N3, n3, N4, n4, rfl, j0, i0, j2, i2, j3, i3, j4, i4⟩ := k49_open hK2
        have HPS : Aside0 (k47.K W s.f1 [.int .i64 s.f1.f0, .slice M2 s.f1.f1.length m2, .slice M3 s.f1.f2.length m3, .slice M4 s.f1.f3.length m4]) := ⟨k47_mk W s.f1 k2 h2 k3 h3 k4 h4⟩
        have HPT : Aside0 (k47.K W t.f1 [.int .i64 t.f1.f0, .slice N2 t.f1.f1.length n2, .slice N3 t.f1.f2.length n3, .slice N4 t.f1.f3.length n4]) := ⟨k47_mk W t.f1 j2 i2 j3 i3 j4 i4⟩
        have HTX := Aside0.mk (And.intro (And.intro k0 h0) (And.intro j0 i0))
        have HCC2 := Aside0.mk (And.intro hcc hcc2)
        have HLN := Aside0.mk hlt
        have HAT := Aside0.mk ((congrArg (· && eqL sameRul (R.drop (m + 1)) (R'.drop (m + 1))) (eqL_at sameStp hs ht)).symm.trans HN.out.2)
        clear hcell hcell2 hcc hcc2 hK hK2 hs ht hlt k0 h0 k2 h2 k3 h3 k4 h4 j0 i0 j2 i2 j3 i3 j4 i4
        go_upto_region 18 with (fail)
        clear e1 s2
        have g0 : ∀ p : Later w6, p.wx.cell? ⟨b6, 2, none⟩ = some (.slice (some ⟨gs, os, none⟩) u.f2.length p2) := fun p => (blk_cell (blk_below HC.out.2.1 (join_below HN.out.1 p.below)) 2).trans rfl
        have g1 : ∀ p : Later w6, p.wx.cell? ⟨b7, 2, none⟩ = some (.slice (some ⟨gt, ot, none⟩) v.f2.length q2) := fun p => (blk_cell (blk_below HC.out.2.2 (join_below HN.out.1 p.below)) 2).trans rfl
        have s0 : ∀ p : Later w6, p.wx.cell? ⟨gs, os + n * 5 + 0, none⟩ = some (.slice M0 s.f0.length m0) := fun p => cell_after p.below (cell_after HB6.out (HCC2.out.1 0 _ rfl))
        have r0 : ∀ p : Later w6, p.wx.cell? ⟨gt, ot + n * 5 + 0, none⟩ = some (.slice N0 t.f0.length n0) := fun p => cell_after p.below (cell_after HB6.out (HCC2.out.2 0 _ rfl))
        have s1 : ∀ p : Later w6, p.wx.cell? ⟨gs, os + n * 5 + 1, none⟩ = some (.int .i64 s.f1.f0) := fun p => cell_after p.below (cell_after HB6.out (HCC2.out.1 1 _ rfl))
        have r1 : ∀ p : Later w6, p.wx.cell? ⟨gt, ot + n * 5 + 1, none⟩ = some (.int .i64 t.f1.f0) := fun p => cell_after p.below (cell_after HB6.out (HCC2.out.2 1 _ rfl))
        have s2 : ∀ p : Later w6, p.wx.cell? ⟨gs, os + n * 5 + 2, none⟩ = some (.slice M2 s.f1.f1.length m2) := fun p => cell_after p.below (cell_after HB6.out (HCC2.out.1 2 _ rfl))
        have r2 : ∀ p : Later w6, p.wx.cell? ⟨gt, ot + n * 5 + 2, none⟩ = some (.slice N2 t.f1.f1.length n2) := fun p => cell_after p.below (cell_after HB6.out (HCC2.out.2 2 _ rfl))
        have s3 : ∀ p : Later w6, p.wx.cell? ⟨gs, os + n * 5 + 3, none⟩ = some (.slice M3 s.f1.f2.length m3) := fun p => cell_after p.below (cell_after HB6.out (HCC2.out.1 3 _ rfl))
        have r3 : ∀ p : Later w6, p.wx.cell? ⟨gt, ot + n * 5 + 3, none⟩ = some (.slice N3 t.f1.f2.length n3) := fun p => cell_after p.below (cell_after HB6.out (HCC2.out.2 3 _ rfl))
        have s4 : ∀ p : Later w6, p.wx.cell? ⟨gs, os + n * 5 + 4, none⟩ = some (.slice M4 s.f1.f3.length m4) := fun p => cell_after p.below (cell_after HB6.out (HCC2.out.1 4 _ rfl))
        have r4 : ∀ p : Later w6, p.wx.cell? ⟨gt, ot + n * 5 + 4, none⟩ = some (.slice N4 t.f1.f3.length n4) := fun p => cell_after p.below (cell_after HB6.out (HCC2.out.2 4 _ rfl))
        simp only [Nat.add_zero] at s0 r0
        obtain ⟨wd, hwd⟩ : ∃ z, w6.drew = z := ⟨_, rfl⟩
        have HLW : Aside0 (Below w6.heap.size w6 wd) := ⟨hwd ▸ below_drew1 (Below.refl _ _)⟩
        go_cut [146] (fun a w' => a = .bool (!sameStp s t) ∧ Aside0 (Below w6.heap.size w6 w'))
        case first =>
         have hund : undef = Value.tuple #[] := rfl
         refine wp_region_held (S := fun w' => ∃ p : Later w6, w' = p.wx) (by kernel_rfl) ?_
         change wpAnyH _ _ _ _ _ _ _ _ (World.drew _)
         rw [hwd]
         clear hwd
         iterate 8 ((first | refine takeR (i := 0) (by decide +kernel) (by rfl) ?_ ?_ ?_ | refine takeR (i := 1) (by decide +kernel) (by rfl) ?_ ?_ ?_ | refine takeR (i := 2) (by decide +kernel) (by rfl) ?_ ?_ ?_ | refine takeR (i := 3) (by decide +kernel) (by rfl) ?_ ?_ ?_ | refine takeR (i := 4) (by decide +kernel) (by rfl) ?_ ?_ ?_ | refine takeR (i := 5) (by decide +kernel) (by rfl) ?_ ?_ ?_ | refine takeR (i := 6) (by decide +kernel) (by rfl) ?_ ?_ ?_ | refine takeR (i := 7) (by decide +kernel) (by rfl) ?_ ?_ ?_); (focus first | exact fun _ _ _ _ h => h | exact fun _ _ _ _ h => HPQ.out _ _ _ _ (by rfl) h); (focus exact ⟨⟨_, HLW.out⟩, rfl⟩); intro K hK; go_simp; (with_reducible refine hK _ ?_); clear hK K)
         iterate 4 ((first | refine takeR (i := 8) (by decide +kernel) (by rfl) ?_ ?_ ?_ | refine takeR (i := 9) (by decide +kernel) (by rfl) ?_ ?_ ?_ | refine takeR (i := 10) (by decide +kernel) (by rfl) ?_ ?_ ?_ | refine takeR (i := 11) (by decide +kernel) (by rfl) ?_ ?_ ?_); (focus first | exact fun _ _ _ _ h => h | exact fun _ _ _ _ h => HPQ.out _ _ _ _ (by rfl) h); (focus exact ⟨⟨_, HLW.out⟩, rfl⟩); intro K hK; go_simp; (with_reducible refine hK _ ?_); clear hK K)
         refine hall1 (i := 12) (by kernel_rfl) (by rfl) (fun K hK => ?_)
         go_simp
         refine (rtexts_any s.f0 t.f0 M0 N0 m0 n0 _ (Kd.C_below HTX.out.1.2 (join_below HB6.out HLW.out)) HTX.out.1.1 (Kd.C_below HTX.out.2.2 (join_below HB6.out HLW.out)) HTX.out.2.1).mono ?_
         rintro e w7 ⟨rfl, hd⟩
         have HLW := Aside0.mk (join_below HLW.out hd)
         clear hd
         refine hK _ _ ⟨⟨_, HLW.out⟩, rfl⟩ ?_
         clear hK K
         cases hq : eqL txQ s.f0 t.f0
         · skip
           have HRR : Aside0 (sameStp s t = false) := ⟨by unfold sameStp; rw [hq]; rfl⟩
           clear hq
           iterate 8 ((first | refine takeR (i := 13) (by decide +kernel) (by rfl) ?_ ?_ ?_ | refine takeR (i := 14) (by decide +kernel) (by rfl) ?_ ?_ ?_ | refine takeR (i := 15) (by decide +kernel) (by rfl) ?_ ?_ ?_ | refine takeR (i := 16) (by decide +kernel) (by rfl) ?_ ?_ ?_ | refine takeR (i := 17) (by decide +kernel) (by rfl) ?_ ?_ ?_ | refine takeR (i := 18) (by decide +kernel) (by rfl) ?_ ?_ ?_ | refine takeR (i := 19) (by decide +kernel) (by rfl) ?_ ?_ ?_ | refine takeR (i := 20) (by decide +kernel) (by rfl) ?_ ?_ ?_); (focus first | exact fun _ _ _ _ h => h | exact fun _ _ _ _ h => HPQ.out _ _ _ _ (by rfl) h); (focus exact ⟨⟨_, HLW.out⟩, rfl⟩); intro K hK; go_simp; (with_reducible refine hK _ ?_); clear hK K)
           iterate 8 ((first | refine takeR (i := 21) (by decide +kernel) (by rfl) ?_ ?_ ?_ | refine takeR (i := 22) (by decide +kernel) (by rfl) ?_ ?_ ?_ | refine takeR (i := 23) (by decide +kernel) (by rfl) ?_ ?_ ?_ | refine takeR (i := 24) (by decide +kernel) (by rfl) ?_ ?_ ?_ | refine takeR (i := 25) (by decide +kernel) (by rfl) ?_ ?_ ?_ | refine takeR (i := 26) (by decide +kernel) (by rfl) ?_ ?_ ?_ | refine takeR (i := 27) (by decide +kernel) (by rfl) ?_ ?_ ?_ | refine takeR (i := 28) (by decide +kernel) (by rfl) ?_ ?_ ?_); (focus first | exact fun _ _ _ _ h => h | exact fun _ _ _ _ h => HPQ.out _ _ _ _ (by rfl) h); (focus exact ⟨⟨_, HLW.out⟩, rfl⟩); intro K hK; go_simp; (with_reducible refine hK _ ?_); clear hK K)
           (refine takeR (i := 29) (by kernel_rfl) (by rfl) ?_ ?_ ?_; (focus first | exact fun _ _ _ _ h => h | exact fun _ _ _ _ h => HPQ.out _ _ _ _ (by rfl) h); (focus exact ⟨⟨_, HLW.out⟩, rfl⟩); intro K hK; go_simp; (with_reducible refine hK _ ?_); clear hK K)
           refine wpAnyH_done (by kernel_rfl) ?_ _
           go_wp2
           go_meet
           case rel => exact ⟨by first | (rw [HRR.out]; done) | (rw [HRR.out]; rfl), HLW⟩
         · skip
           have HRR : Aside0 (sameStp s t = samePt s.f1 t.f1) := ⟨by unfold sameStp; rw [hq]; rfl⟩
           clear hq
           iterate 8 ((first | refine takeR (i := 13) (by decide +kernel) (by rfl) ?_ ?_ ?_ | refine takeR (i := 14) (by decide +kernel) (by rfl) ?_ ?_ ?_ | refine takeR (i := 15) (by decide +kernel) (by rfl) ?_ ?_ ?_ | refine takeR (i := 16) (by decide +kernel) (by rfl) ?_ ?_ ?_ | refine takeR (i := 17) (by decide +kernel) (by rfl) ?_ ?_ ?_ | refine takeR (i := 18) (by decide +kernel) (by rfl) ?_ ?_ ?_ | refine takeR (i := 19) (by decide +kernel) (by rfl) ?_ ?_ ?_ | refine takeR (i := 20) (by decide +kernel) (by rfl) ?_ ?_ ?_); (focus first | exact fun _ _ _ _ h => h | exact fun _ _ _ _ h => HPQ.out _ _ _ _ (by rfl) h); (focus exact ⟨⟨_, HLW.out⟩, rfl⟩); intro K hK; go_simp; (with_reducible refine hK _ ?_); clear hK K)
           iterate 6 ((first | refine takeR (i := 21) (by decide +kernel) (by rfl) ?_ ?_ ?_ | refine takeR (i := 22) (by decide +kernel) (by rfl) ?_ ?_ ?_ | refine takeR (i := 23) (by decide +kernel) (by rfl) ?_ ?_ ?_ | refine takeR (i := 24) (by decide +kernel) (by rfl) ?_ ?_ ?_ | refine takeR (i := 25) (by decide +kernel) (by rfl) ?_ ?_ ?_ | refine takeR (i := 26) (by decide +kernel) (by rfl) ?_ ?_ ?_); (focus first | exact fun _ _ _ _ h => h | exact fun _ _ _ _ h => HPQ.out _ _ _ _ (by rfl) h); (focus exact ⟨⟨_, HLW.out⟩, rfl⟩); intro K hK; go_simp; (with_reducible refine hK _ ?_); clear hK K)
           refine hall1 (i := 27) (by kernel_rfl) (by rfl) (fun K hK => ?_)
           go_simp
           refine (rsame_any s.f1 t.f1 W _ _ _ (join_below HB6.out HLW.out) HPS.out HPT.out).mono ?_
           rintro e w8 ⟨rfl, hd⟩
           have HLW := Aside0.mk (join_below HLW.out hd)
           clear hd
           refine hK _ _ ⟨⟨_, HLW.out⟩, rfl⟩ ?_
           clear hK K
           iterate 2 ((first | refine takeR (i := 28) (by decide +kernel) (by rfl) ?_ ?_ ?_ | refine takeR (i := 29) (by decide +kernel) (by rfl) ?_ ?_ ?_); (focus first | exact fun _ _ _ _ h => h | exact fun _ _ _ _ h => HPQ.out _ _ _ _ (by rfl) h); (focus exact ⟨⟨_, HLW.out⟩, rfl⟩); intro K hK; go_simp; (with_reducible refine hK _ ?_); clear hK K)
           refine wpAnyH_done (by kernel_rfl) ?_ _
           go_wp2
           go_meet
           case rel => exact ⟨by first | (rw [HRR.out]; done) | (rw [HRR.out]; rfl) | (rw [HRR.out]; simp), HLW⟩
        obtain ⟨rfl, HCX⟩ := hcut
        obtain ⟨w9, hw9⟩ : ∃ z, wc = z := ⟨_, rfl⟩
        rw [hw9] at HCX ⊢
        clear hw9 hwd HLW g0 g1 s0 s1 s2 s3 s4 r0 r1 r2 r3 r4
        cases hsm : sameStp s t
        · have HRR : Aside0 (res = false) := ⟨by rw [← HAT.out, hsm]; rfl⟩
          clear hsm
          go_wp2
          go_ret
          rw [HRR.out]
          exact ⟨rfl, join_below HB6.out HCX.out⟩
        · have HA3 : Aside0 ((eqL sameStp (u.f2.drop (n + 1)) (v.f2.drop (n + 1)) && eqL sameRul (R.drop (m + 1)) (R'.drop (m + 1))) = res) := ⟨by rw [← HAT.out, hsm]; rfl⟩
          clear hsm
          go_wp2
          go_roundw
          case rel => exact ⟨n + 1, by go_num, HLN.out, ⟨⟨join_below HN.out.1 HCX.out, HA3.out⟩⟩⟩
          case measure => have := HLN.out; simp [intOf]; omega
      · have e1 : decide (n < u.f2.length) = false := decide_eq_false hlt
        have HA3 : Aside0 (eqL sameRul (R.drop (m + 1)) (R'.drop (m + 1)) = res) := ⟨by
         have h := HN.out.2
         rw [List.drop_of_length_le (by omega), List.drop_of_length_le (by have := HSL.out; omega)] at h
         exact h⟩
        clear hlt
        go_wp2
        go_roundw
        case rel => exact ⟨m + 1, by go_num, HLM.out, ⟨⟨join_below HS.out.1 (join_below HC.out.1 HN.out.1), HA3.out⟩⟩⟩
        case measure => have := HLM.out; simp [intOf]; omega
   · have e1 : decide (m < R.length) = false := decide_eq_false hlt
     have HRR : Aside0 (res = true) := ⟨by
      have h := HS.out.2
      rw [List.drop_of_length_le (by omega), List.drop_of_length_le (by have := HLR.out; omega)] at h
      exact h.symm⟩
     clear hlt
     go_wp2
     go_ret
     rw [HRR.out]
     exact ⟨rfl, HB4.out⟩
def ChkC (T : List Tok) (R : List Rul) (c n : Int) : Prop := ∀ (AT : Option Addr) (ct : Nat) (AR : Option Addr) (cr : Nat) (W : World), kTok.C W AT T.length T → kRul.C W AR R.length R → OwnAt W →
    Calls Tryz.prog 6 #[.agg #[.slice AT T.length ct, .slice AR R.length cr]] W fun e W' => e = .returned (.tuple #[.int .i64 c, .int .i64 n]) ∧ Below W.heap.size W W'
set_option maxHeartbeats 1000000 in
set_option maxRecDepth 100000 in
theorem gmay_any (T : List Tok) (R : List Rul) (c n : Int) (hC : ChkC T R c n) (AT : Option Addr) (ct : Nat) (AR : Option Addr) (cr : Nat) (W : World) (hT : kTok.C W AT T.length T) (hR : kRul.C W AR R.length R) (hO : OwnAt W) :
 Calls Tryz.prog 8 #[.agg #[.slice AT T.length ct, .slice AR R.length cr]] W fun e W' => e = .returned (.bool (c == 0)) ∧ Below W.heap.size W W' := by
 have HC := Aside0.mk hC
 have HG := Aside0.mk (And.intro hT (And.intro hR hO))
 clear hC hT hR hO
 go_enter Tryz.func8, Tryz.ntmps8
 go_wp2_with fail
 refine (HC.out AT ct AR cr _ (Kd.C_below HG.out.1 (below1 W _)) (Kd.C_below HG.out.2.1 (below1 W _)) (Kd.C_below HG.out.2.2 (below1 W _))).mono ?_
 rintro e w2 ⟨rfl, hb⟩
 have HB := Aside0.mk (join_below (below1 W _) hb)
 clear hb
 go_wp2
 go_ret
 exact ⟨rfl, HB.out⟩
theorem chk_of (T : List Tok) (R : List Rul) (c n : Int) (hT : ∀ t, t ∈ T → TokOk (fun _ => true) (fun _ => false) t) (h : codeOf (checkS (fun _ => true) (fun _ => false) T R) = (c, n)) : ChkC T R c n := fun AT ct AR cr W h1 h2 h3 => by
 refine (check_any (fun _ => true) (fun _ => false) T R hT AT ct AR cr W h1 h2 h3).mono ?_
 rintro e w ⟨rfl, hb⟩
 rw [h]
 exact ⟨rfl, hb⟩
theorem ok_set (s : ByteArray) (a b : Int) (l : List S80) (hs : s.size ≤ 9223372036854775807) (hm : regex_May.f 2 l [] = some true) (he : ∃ k, regex_Empty.f k 2 l [] = some false) : TokOk (fun _ => true) (fun _ => false) ⟨s, a, b, ⟨2, l, []⟩⟩ := ⟨hs, hm, fun _ => he⟩
theorem may_97 : regex_May.f 2 [⟨97, 97⟩] [] = some true := by kernel_rfl
theorem may_99 : regex_May.f 2 [⟨99, 99⟩] [] = some true := by kernel_rfl
theorem may_100 : regex_May.f 2 [⟨100, 100⟩] [] = some true := by kernel_rfl
theorem may_b : regex_May.f 2 [⟨10, 10⟩, ⟨98, 98⟩] [] = some true := by kernel_rfl
theorem emp_97 : regex_Empty.f 9 2 [⟨97, 97⟩] [] = some false := by kernel_rfl
theorem emp_99 : regex_Empty.f 9 2 [⟨99, 99⟩] [] = some false := by kernel_rfl
theorem emp_100 : regex_Empty.f 9 2 [⟨100, 100⟩] [] = some false := by kernel_rfl
theorem emp_b : regex_Empty.f 9 2 [⟨10, 10⟩, ⟨98, 98⟩] [] = some false := by kernel_rfl
theorem made_ok (t : Tok) (h : t ∈ madeT) : TokOk (fun _ => true) (fun _ => false) t := by
 simp only [madeT, oneT, List.mem_cons, List.not_mem_nil, or_false] at h
 rcases h with rfl | rfl | rfl | rfl
 · exact ok_set _ _ _ _ (by decide) may_97 ⟨_, emp_97⟩
 · exact ok_set _ _ _ _ (by decide) may_b ⟨_, emp_b⟩
 · exact ok_set _ _ _ _ (by decide) may_99 ⟨_, emp_99⟩
 · exact ok_set _ _ _ _ (by decide) may_100 ⟨_, emp_100⟩
set_option maxHeartbeats 1000000 in
set_option maxRecDepth 100000 in
theorem empn_index (xs : List S47) (A : Option Addr) (c : Nat)  (I J : Nat → World → Prop) (w0 w : World) (hC : k47.C w0 A xs.length xs) (hB : ∀ i W, I i W → Below w0.heap.size w0 W)
 (hstep : ∀ i x cs W, xs[i]? = some x → I i W → k47.K w0 x cs → Calls Tryz.prog 46 #[.agg cs.toArray] W (CbPost (J i) (I (i + 1)))) (h0 : I 0 w) :
 Calls Tryz.prog 66 #[.slice A xs.length c, .func (.func 46) #[] #[]] w (IdxPost xs.length I J) := by
 have hl : xs.length ≤ 9223372036854775807 := hC.2.1
 have HC := Aside0.mk hC
 have HB := Aside0.mk hB
 have HS := Aside0.mk hstep
 have H0 := Aside0.mk h0
 clear hC hB hstep h0
 go_enter Tryz.func66, Tryz.ntmps66
 go_wp2
 go_loopw [8] (fun i W => ∃ k : Nat, i = .int .i64 k ∧ k ≤ xs.length ∧ Aside0 (I k W)) (fun i _ => xs.length - (intOf i).toNat)
 case atStart => exact ⟨0, rfl, Nat.zero_le _, H0⟩
 case round =>
  obtain ⟨k, rfl, hkl, HI⟩ := hrel
  by_cases hlt : k < xs.length
  · obtain ⟨g, o, rfl, _, hcell⟩ := row_cells HC.out (by omega) (by decide)
    obtain ⟨x, hx⟩ : ∃ x, xs[k]? = some x := ⟨_, List.getElem?_eq_getElem hlt⟩
    obtain ⟨cs, hcl, hK, hcc⟩ := hcell k x hx
    have HK := Aside0.mk hK
    obtain ⟨A1, c1, A2, c2, A3, c3, rfl, l1, g1, l2, g2, l3, g3⟩ := k47_open hK
    have y0 := cell_after (HB.out k _ HI.out) (hcc 0 (.int .i64 x.f0) rfl)
    rw [Nat.add_zero] at y0
    have y1 := cell_after (HB.out k _ HI.out) (hcc 1 (.slice A1 x.f1.length c1) rfl)
    have y2 := cell_after (HB.out k _ HI.out) (hcc 2 (.slice A2 x.f2.length c2) rfl)
    have y3 := cell_after (HB.out k _ HI.out) (hcc 3 (.slice A3 x.f3.length c3) rfl)
    simp only [show k47.sz = 4 from rfl] at y0 y1 y2 y3
    have HX := Aside0.mk hx
    clear hcell hcc hx hK hcl
    go_wp2_with fail
    refine (HS.out k x _ _ HX.out HI.out HK.out).mono ?_
    rintro e w2 hp
    rcases hp with ⟨rfl, hj⟩ | ⟨rfl, hi⟩
    · have HJ := Aside0.mk hj
      clear hj
      go_wp2
      go_ret
      exact Or.inl ⟨k, hlt, rfl, HJ.out⟩
    · have HI2 := Aside0.mk hi
      clear hi
      go_wp2
      go_roundw
      case rel => exact ⟨k + 1, by go_num, by omega, HI2⟩
      case measure => simp [intOf]; omega
  · obtain ⟨n, hn⟩ : ∃ n, xs.length = n := ⟨_, rfl⟩
    have e : k = xs.length := by omega
    have HI2 : Aside0 (I xs.length _) := ⟨e ▸ HI.out⟩
    clear e hn n
    go_wp2
    go_ret
    exact Or.inr ⟨rfl, HI2.out⟩
set_option maxHeartbeats 1000000 in
theorem empn_contains (xs : List S47) (A : Option Addr) (c : Nat)  (I J : Nat → World → Prop) (w0 w : World) (hC : k47.C w0 A xs.length xs) (hB : ∀ i W, I i W → Below w0.heap.size w0 W)
 (hstep : ∀ i x cs W, xs[i]? = some x → I i W → k47.K w0 x cs → Calls Tryz.prog 46 #[.agg cs.toArray] W (CbPost (J i) (I (i + 1)))) (h0 : I 0 w) :
 Calls Tryz.prog 45 #[.slice A xs.length c, .func (.func 46) #[] #[]] w (ConPost xs.length I J) := by
 have hl : xs.length ≤ 9223372036854775807 := hC.2.1
 have HC := Aside0.mk hC
 have HB := Aside0.mk hB
 have HS := Aside0.mk hstep
 have H0 := Aside0.mk h0
 clear hC hB hstep h0
 go_enter Tryz.func45, Tryz.ntmps45
 go_wp2_with fail
 refine (empn_index xs A c  I J w0 _ HC.out HB.out HS.out H0.out).mono ?_
 rintro e w2 hp
 rcases hp with ⟨i, hi, rfl, hj⟩ | ⟨rfl, hi⟩
 · have HJ := Aside0.mk hj
   have h0 : (0 : Int) ≤ (i : Int) := by omega
   clear hj
   go_wp2
   go_ret
   exact Or.inl ⟨rfl, i, hi, HJ.out⟩
 · have HI := Aside0.mk hi
   clear hi
   go_wp2
   go_ret
   exact Or.inr ⟨rfl, HI.out⟩
theorem empn_any (q : S47 → Bool) (xs : List S47) (A : Option Addr) (c : Nat)  (w0 w : World) (hC : k47.C w0 A xs.length xs) (hw : Below w0.heap.size w0 w)
 (hq : ∀ x cs W, x ∈ xs → Below w.heap.size w W → k47.K w0 x cs → Calls Tryz.prog 46 #[.agg cs.toArray] W fun e W' => e = .returned (.bool (q x)) ∧ Below W.heap.size W W') :
 Calls Tryz.prog 45 #[.slice A xs.length c, .func (.func 46) #[] #[]] w fun e W' => e = .returned (.bool (xs.any q)) ∧ Below w.heap.size w W' := by
 refine (empn_contains xs A c  (fun i W => Below w.heap.size w W ∧ (xs.take i).any q = false) (fun _ W => Below w.heap.size w W ∧ xs.any q = true) w0 w hC (fun i W h => join_below hw h.1) (fun i y cs W hy hI hK => ?_) ⟨Below.refl _ _, rfl⟩).mono ?_
 · refine (hq y cs W (List.mem_of_getElem? hy) hI.1 hK).mono ?_
   rintro e W2 ⟨rfl, hb2⟩
   have hb3 := join_below hI.1 hb2
   cases hb : q y
   · exact Or.inr ⟨rfl, hb3, by rw [List.take_add_one, hy, List.any_append, hI.2]; simp [hb]⟩
   · exact Or.inl ⟨rfl, hb3, List.any_eq_true.2 ⟨y, List.mem_of_getElem? hy, hb⟩⟩
 · rintro e W2 hp
   rcases hp with ⟨rfl, _, _, hb, hm⟩ | ⟨rfl, hb, hm⟩
   · exact ⟨by rw [hm], hb⟩
   · rw [List.take_length] at hm
     exact ⟨by rw [hm], hb⟩
set_option maxHeartbeats 1000000 in
set_option maxRecDepth 100000 in
theorem empy_index (xs : List S47) (A : Option Addr) (c : Nat)  (I J : Nat → World → Prop) (w0 w : World) (hC : k47.C w0 A xs.length xs) (hB : ∀ i W, I i W → Below w0.heap.size w0 W)
 (hstep : ∀ i x cs W, xs[i]? = some x → I i W → k47.K w0 x cs → Calls Tryz.prog 19 #[.agg cs.toArray] W (CbPost (J i) (I (i + 1)))) (h0 : I 0 w) :
 Calls Tryz.prog 66 #[.slice A xs.length c, .func (.func 19) #[] #[]] w (IdxPost xs.length I J) := by
 have hl : xs.length ≤ 9223372036854775807 := hC.2.1
 have HC := Aside0.mk hC
 have HB := Aside0.mk hB
 have HS := Aside0.mk hstep
 have H0 := Aside0.mk h0
 clear hC hB hstep h0
 go_enter Tryz.func66, Tryz.ntmps66
 go_wp2
 go_loopw [8] (fun i W => ∃ k : Nat, i = .int .i64 k ∧ k ≤ xs.length ∧ Aside0 (I k W)) (fun i _ => xs.length - (intOf i).toNat)
 case atStart => exact ⟨0, rfl, Nat.zero_le _, H0⟩
 case round =>
  obtain ⟨k, rfl, hkl, HI⟩ := hrel
  by_cases hlt : k < xs.length
  · obtain ⟨g, o, rfl, _, hcell⟩ := row_cells HC.out (by omega) (by decide)
    obtain ⟨x, hx⟩ : ∃ x, xs[k]? = some x := ⟨_, List.getElem?_eq_getElem hlt⟩
    obtain ⟨cs, hcl, hK, hcc⟩ := hcell k x hx
    have HK := Aside0.mk hK
    obtain ⟨A1, c1, A2, c2, A3, c3, rfl, l1, g1, l2, g2, l3, g3⟩ := k47_open hK
    have y0 := cell_after (HB.out k _ HI.out) (hcc 0 (.int .i64 x.f0) rfl)
    rw [Nat.add_zero] at y0
    have y1 := cell_after (HB.out k _ HI.out) (hcc 1 (.slice A1 x.f1.length c1) rfl)
    have y2 := cell_after (HB.out k _ HI.out) (hcc 2 (.slice A2 x.f2.length c2) rfl)
    have y3 := cell_after (HB.out k _ HI.out) (hcc 3 (.slice A3 x.f3.length c3) rfl)
    simp only [show k47.sz = 4 from rfl] at y0 y1 y2 y3
    have HX := Aside0.mk hx
    clear hcell hcc hx hK hcl
    go_wp2_with fail
    refine (HS.out k x _ _ HX.out HI.out HK.out).mono ?_
    rintro e w2 hp
    rcases hp with ⟨rfl, hj⟩ | ⟨rfl, hi⟩
    · have HJ := Aside0.mk hj
      clear hj
      go_wp2
      go_ret
      exact Or.inl ⟨k, hlt, rfl, HJ.out⟩
    · have HI2 := Aside0.mk hi
      clear hi
      go_wp2
      go_roundw
      case rel => exact ⟨k + 1, by go_num, by omega, HI2⟩
      case measure => simp [intOf]; omega
  · obtain ⟨n, hn⟩ : ∃ n, xs.length = n := ⟨_, rfl⟩
    have e : k = xs.length := by omega
    have HI2 : Aside0 (I xs.length _) := ⟨e ▸ HI.out⟩
    clear e hn n
    go_wp2
    go_ret
    exact Or.inr ⟨rfl, HI2.out⟩
set_option maxHeartbeats 1000000 in
theorem empy_contains (xs : List S47) (A : Option Addr) (c : Nat)  (I J : Nat → World → Prop) (w0 w : World) (hC : k47.C w0 A xs.length xs) (hB : ∀ i W, I i W → Below w0.heap.size w0 W)
 (hstep : ∀ i x cs W, xs[i]? = some x → I i W → k47.K w0 x cs → Calls Tryz.prog 19 #[.agg cs.toArray] W (CbPost (J i) (I (i + 1)))) (h0 : I 0 w) :
 Calls Tryz.prog 45 #[.slice A xs.length c, .func (.func 19) #[] #[]] w (ConPost xs.length I J) := by
 have hl : xs.length ≤ 9223372036854775807 := hC.2.1
 have HC := Aside0.mk hC
 have HB := Aside0.mk hB
 have HS := Aside0.mk hstep
 have H0 := Aside0.mk h0
 clear hC hB hstep h0
 go_enter Tryz.func45, Tryz.ntmps45
 go_wp2_with fail
 refine (empy_index xs A c  I J w0 _ HC.out HB.out HS.out H0.out).mono ?_
 rintro e w2 hp
 rcases hp with ⟨i, hi, rfl, hj⟩ | ⟨rfl, hi⟩
 · have HJ := Aside0.mk hj
   have h0 : (0 : Int) ≤ (i : Int) := by omega
   clear hj
   go_wp2
   go_ret
   exact Or.inl ⟨rfl, i, hi, HJ.out⟩
 · have HI := Aside0.mk hi
   clear hi
   go_wp2
   go_ret
   exact Or.inr ⟨rfl, HI.out⟩
theorem empy_any (q : S47 → Bool) (xs : List S47) (A : Option Addr) (c : Nat)  (w0 w : World) (hC : k47.C w0 A xs.length xs) (hw : Below w0.heap.size w0 w)
 (hq : ∀ x cs W, x ∈ xs → Below w.heap.size w W → k47.K w0 x cs → Calls Tryz.prog 19 #[.agg cs.toArray] W fun e W' => e = .returned (.bool (q x)) ∧ Below W.heap.size W W') :
 Calls Tryz.prog 45 #[.slice A xs.length c, .func (.func 19) #[] #[]] w fun e W' => e = .returned (.bool (xs.any q)) ∧ Below w.heap.size w W' := by
 refine (empy_contains xs A c  (fun i W => Below w.heap.size w W ∧ (xs.take i).any q = false) (fun _ W => Below w.heap.size w W ∧ xs.any q = true) w0 w hC (fun i W h => join_below hw h.1) (fun i y cs W hy hI hK => ?_) ⟨Below.refl _ _, rfl⟩).mono ?_
 · refine (hq y cs W (List.mem_of_getElem? hy) hI.1 hK).mono ?_
   rintro e W2 ⟨rfl, hb2⟩
   have hb3 := join_below hI.1 hb2
   cases hb : q y
   · exact Or.inr ⟨rfl, hb3, by rw [List.take_add_one, hy, List.any_append, hI.2]; simp [hb]⟩
   · exact Or.inl ⟨rfl, hb3, List.any_eq_true.2 ⟨y, List.mem_of_getElem? hy, hb⟩⟩
 · rintro e W2 hp
   rcases hp with ⟨rfl, _, _, hb, hm⟩ | ⟨rfl, hb, hm⟩
   · exact ⟨by rw [hm], hb⟩
   · rw [List.take_length] at hm
     exact ⟨by rw [hm], hb⟩
mutual
/-- may a pattern be of nothing -/
def empP : Pt → Bool
 | ⟨a, _, _, l⟩ => if a = 1 ∨ a = 4 ∨ a = 7 then true else if a = 5 then !empN l else if a = 6 then empY l else false
def empN : List Pt → Bool
 | [] => false
 | x :: l => !empP x || empN l
def empY : List Pt → Bool
 | [] => false
 | x :: l => empP x || empY l
end
theorem empN_eq : ∀ l : List Pt, empN l = l.any (fun x => !empP x)
 | [] => by simp only [empN, List.any_nil]
 | x :: l => by
  simp only [empN, List.any_cons]
  rw [empN_eq l]
theorem empY_eq : ∀ l : List Pt, empY l = l.any empP
 | [] => by simp only [empY, List.any_nil]
 | x :: l => by
  simp only [empY, List.any_cons]
  rw [empY_eq l]
def EmpC (x : Pt) : Prop := ∀ (w0 W : World) (cs : List Value), Below w0.heap.size w0 W → kPt.K w0 x cs → Calls Tryz.prog 19 #[.agg cs.toArray] W fun e W' => e = .returned (.bool (empP x)) ∧ Below W.heap.size W W'
set_option maxHeartbeats 1000000 in
theorem emp_part {x : Pt} (hx : EmpC x) (w0 W : World) (cs : List Value) (hB : Below w0.heap.size w0 W) (hK : kPt.K w0 x cs) :
 Calls Tryz.prog 46 #[.agg cs.toArray] W fun e W' => e = .returned (.bool (!empP x)) ∧ Below W.heap.size W W' := by
 have HX := Aside0.mk hx
 have HK := Aside0.mk hK
 obtain ⟨A1, c1, A2, c2, A3, c3, rfl, _, _, _, _, _, _⟩ := k47_open hK
 have HB : Aside0 (∀ o, Below w0.heap.size w0 (W.alloc o)) := ⟨fun o => below_alloc hB o⟩
 clear hK hx hB
 go_enter Tryz.func46, Tryz.ntmps46
 go_wp2_with fail
 refine (HX.out w0 _ _ (HB.out _) HK.out).mono ?_
 rintro e w2 ⟨rfl, hb⟩
 have HB2 := Aside0.mk (join_below (below1 W _) hb)
 clear hb
 go_wp2
 go_ret
 exact ⟨rfl, HB2.out⟩
set_option maxHeartbeats 2000000 in
set_option maxRecDepth 100000 in
theorem emp_go (x : Pt) (hx : ∀ y, y ∈ x.f3 → EmpC y) : EmpC x := by
 intro w0 W cs hB hK
 obtain ⟨A1, c1, A2, c2, A3, c3, rfl, l1, g1, l2, g2, l3, g3⟩ := k47_open hK
 obtain ⟨res, hres⟩ : ∃ r, empP x = r := ⟨_, rfl⟩
 have hv : empP x = if x.f0 = 1 ∨ x.f0 = 4 ∨ x.f0 = 7 then true else if x.f0 = 5 then !x.f3.any (fun y => !empP y) else if x.f0 = 6 then x.f3.any empP else false := by
  cases x
  rw [empP, empN_eq, empY_eq]
 rw [hres]
 rw [hres] at hv
 have HR := Aside0.mk hv
 have HB := Aside0.mk hB
 have HC := Aside0.mk g3
 have HX := Aside0.mk hx
 clear hB hK hx g1 g2 g3 l1 l2 l3 hres hv
 generalize hf0 : x.f0 = a at HR
 have HF0 := Aside0.mk hf0
 clear hf0
 by_cases c1' : a = 1
 · have hr := HR.out
   subst c1'
   rw [if_pos (by omega)] at hr
   subst hr
   clear HR
   have hf := HF0.out
   go_enter Tryz.func19, Tryz.ntmps19
   go_wp2
   go_ret
   exact ⟨rfl, below1 _ _⟩
 by_cases c4' : a = 4
 · have hr := HR.out
   subst c4'
   rw [if_pos (by omega)] at hr
   subst hr
   clear HR
   have hf := HF0.out
   go_enter Tryz.func19, Tryz.ntmps19
   go_wp2
   go_ret
   exact ⟨rfl, below1 _ _⟩
 by_cases c7' : a = 7
 · have hr := HR.out
   subst c7'
   rw [if_pos (by omega)] at hr
   subst hr
   clear HR
   have hf := HF0.out
   go_enter Tryz.func19, Tryz.ntmps19
   go_wp2
   go_ret
   exact ⟨rfl, below1 _ _⟩
 by_cases c5' : a = 5
 · have hr := HR.out
   subst c5'
   rw [if_neg (by omega), if_pos rfl] at hr
   have HR2 := Aside0.mk hr
   clear hr HR
   have hf := HF0.out
   go_enter Tryz.func19, Tryz.ntmps19
   go_wp2_with fail
   refine (empn_any (fun y => !empP y) x.f3 A3 c3 w0 _ HC.out (below_alloc HB.out _) (fun y cs W' hy hb hK => emp_part (HX.out y hy) w0 W' cs (join_below (below_alloc HB.out _) hb) hK)).mono ?_
   rintro e w2 ⟨rfl, hb⟩
   have HB2 := Aside0.mk (join_below (below1 W _) hb)
   clear hb
   go_wp2
   go_ret
   exact ⟨by rw [HR2.out]; rfl, HB2.out⟩
 by_cases c6' : a = 6
 · have hr := HR.out
   subst c6'
   rw [if_neg (by omega), if_neg (by omega), if_pos rfl] at hr
   have HR2 := Aside0.mk hr
   clear hr HR
   have hf := HF0.out
   go_enter Tryz.func19, Tryz.ntmps19
   go_wp2_with fail
   refine (empy_any empP x.f3 A3 c3 w0 _ HC.out (below_alloc HB.out _) (fun y cs W' hy hb hK => HX.out y hy w0 W' cs (join_below (below_alloc HB.out _) hb) hK)).mono ?_
   rintro e w2 ⟨rfl, hb⟩
   have HB2 := Aside0.mk (join_below (below1 W _) hb)
   clear hb
   go_wp2
   go_ret
   exact ⟨by rw [HR2.out]; rfl, HB2.out⟩
 have hr := HR.out
 rw [if_neg (by omega), if_neg c5', if_neg c6'] at hr
 subst hr
 clear HR
 have h1 : (a == 1) = false := beq_eq_false_iff_ne.2 c1'
 have h4 : (a == 4) = false := beq_eq_false_iff_ne.2 c4'
 have h7 : (a == 7) = false := beq_eq_false_iff_ne.2 c7'
 have h5 : (a == 5) = false := beq_eq_false_iff_ne.2 c5'
 have h6 : (a == 6) = false := beq_eq_false_iff_ne.2 c6'
 clear c1' c4' c7' c5' c6'
 go_enter Tryz.func19, Tryz.ntmps19
 go_wp2
 go_ret
 exact ⟨rfl, below1 _ _⟩
theorem emp_all : ∀ (N : Nat) (x : Pt), SizeOf.sizeOf x < N → EmpC x
 | 0, x, h => absurd h (Nat.not_lt_zero _)
 | N + 1, x, h => emp_go x (fun y hy => emp_all N y (by
     have h1 := List.sizeOf_lt_of_mem hy
     have h2 : SizeOf.sizeOf x.f3 < SizeOf.sizeOf x := by
      cases x
      simp
      omega
     omega))
theorem emp_any (x : Pt) : EmpC x := emp_all (SizeOf.sizeOf x + 1) x (Nat.lt_succ_self _)
set_option maxHeartbeats 4000000 in
set_option maxRecDepth 100000 in
theorem make_nil (W : World) :
 Calls Tryz.prog 17 #[.slice none 0 0] W fun e W' => ∃ v, e = .returned (.agg #[v, .slice none 0 0]) ∧ Kd.N kTok 40 W' W.heap.size (fun k => W.heap.size ≤ k) v madeT ∧ Below W.heap.size W W' := by
 go_enter Tryz.func17, Tryz.ntmps17
 go_wp2_with fail
 refine (one_any 99 _).mono ?_
 rintro e w1 ⟨a1, c1, A2, c2, X1, rfl, hl1, hC1, hX1, hC2, n1, n2, hb⟩
 have N1 : Aside0 (W.heap.size < a1) := ⟨by simp at n1; omega⟩
 clear n1 n2
 have HB1 := Aside0.mk (join_below (below1 W _) hb)
 have HBLK := Aside0.mk ((hb.block W.heap.size (by simp)).trans (blk_new W _))
 have H1 := Aside0.mk (And.intro hl1 (And.intro hC1 (And.intro hX1 hC2)))
 clear hl1 hC1 hC2 hX1 hb
 go_wp2_with fail
 refine (one_any 100 _).mono ?_
 rintro e w2 ⟨b1, d1, B2, d2, Y1, rfl, hl1, hC1, hX1, hC2, n1, n2, hb⟩
 have N2 : Aside0 (W.heap.size < b1) := ⟨by have := blk_lt HBLK.out; omega⟩
 clear n1 n2
 have HB2 := Aside0.mk (join_below HB1.out hb)
 have HB12 := Aside0.mk hb
 have H2 := Aside0.mk (And.intro hl1 (And.intro hC1 (And.intro hX1 hC2)))
 clear hl1 hC1 hC2 hX1 hb
 go_wp2
 obtain ⟨w3, hw3⟩ : ∃ x, (w2.alloc (Obj.cells #[.int .i64 2, .slice (some ⟨a1, 0, none⟩) 1 c1, .slice A2 0 c2] 38)).alloc (Obj.cells #[.int .i64 2, .slice (some ⟨b1, 0, none⟩) 1 d1, .slice B2 0 d2] 38) = x := ⟨_, rfl⟩
 have hnb : w3.heap[w2.heap.size + 1]? = some (.cells #[.int .i64 2, .slice (some ⟨b1, 0, none⟩) 1 d1, .slice B2 0 d2] 38 (0, 0)) := by
  rw [← hw3]
  exact second w2 _ _ _
 have hna : w3.heap[w2.heap.size]? = some (.cells #[.int .i64 2, .slice (some ⟨a1, 0, none⟩) 1 c1, .slice A2 0 c2] 38 (0, 0)) := by
  rw [← hw3]
  exact blk_alloc (blk_new _ _) _
 have HB3 : Aside0 (Below w2.heap.size w2 w3) := ⟨hw3 ▸ below_alloc (below1 _ _) _⟩
 have q0 : ∀ p : Later w3, p.wx.cell? ⟨w2.heap.size, 0, none⟩ = some (.int .i64 2) := fun p => cell_after p.below ((blk_cell hna 0).trans rfl)
 have q1 : ∀ p : Later w3, p.wx.cell? ⟨w2.heap.size, 1, none⟩ = some (.slice (some ⟨a1, 0, none⟩) 1 c1) := fun p => cell_after p.below ((blk_cell hna 1).trans rfl)
 have q2 : ∀ p : Later w3, p.wx.cell? ⟨w2.heap.size, 2, none⟩ = some (.slice A2 0 c2) := fun p => cell_after p.below ((blk_cell hna 2).trans rfl)
 have r0 : ∀ p : Later w3, p.wx.cell? ⟨w2.heap.size + 1, 0, none⟩ = some (.int .i64 2) := fun p => cell_after p.below ((blk_cell hnb 0).trans rfl)
 have r1 : ∀ p : Later w3, p.wx.cell? ⟨w2.heap.size + 1, 1, none⟩ = some (.slice (some ⟨b1, 0, none⟩) 1 d1) := fun p => cell_after p.below ((blk_cell hnb 1).trans rfl)
 have r2 : ∀ p : Later w3, p.wx.cell? ⟨w2.heap.size + 1, 2, none⟩ = some (.slice B2 0 d2) := fun p => cell_after p.below ((blk_cell hnb 2).trans rfl)
 have HW3 : Aside0 (W.heap.size < w3.heap.size) := ⟨blk_lt (blk_below (blk_below HBLK.out HB12.out) HB3.out)⟩
 obtain ⟨wd, hwd⟩ : ∃ x, w3.drew = x := ⟨_, rfl⟩
 have HLAT : Aside0 (Below w3.heap.size w3 wd) := ⟨hwd ▸ below_drew1 (Below.refl _ _)⟩
 rw [hw3]
 clear hw3 hna hnb
 have hund : undef = Value.tuple #[] := rfl
 refine wp_region_held (S := fun w' => ∃ p : Later w3, w' = p.wx) (by kernel_rfl) ?_
 change wpAnyH _ _ _ _ _ _ _ _ (World.drew _)
 rw [hwd]
 clear hwd
 iterate 6 ((first | refine takeR (i := 2) (by decide +kernel) (by rfl) ?_ ?_ ?_ | refine takeR (i := 3) (by decide +kernel) (by rfl) ?_ ?_ ?_ | refine takeR (i := 7) (by decide +kernel) (by rfl) ?_ ?_ ?_ | refine takeR (i := 8) (by decide +kernel) (by rfl) ?_ ?_ ?_ | refine takeR (i := 9) (by decide +kernel) (by rfl) ?_ ?_ ?_ | refine takeR (i := 10) (by decide +kernel) (by rfl) ?_ ?_ ?_); (focus exact fun _ _ _ _ h => h); (focus exact ⟨⟨_, HLAT.out⟩, rfl⟩); intro K hK; go_simp; (with_reducible refine hK _ ?_); clear hK K)
 clear q0 q1 q2 r0 r1 r2
 refine hall3 (i := 0) (j := 4) (k := 13) (by kernel_rfl) (by rfl) (by rfl) (by rfl) (fun K hK => ?_) (fun K hK => ?_) (fun K hK => ?_)
 · go_simp
   refine (one_any 97 _).mono ?_
   rintro e v1 ⟨a0, c0, E0, e0, X0, rfl, f1, f2, fX, f3, f4, f5, hb⟩
   have G0 := Aside0.mk f5
   have GW : Aside0 (W.heap.size < a0) := ⟨by have h1 := HW3.out; have h2 := HLAT.out.size; omega⟩
   have ST := Aside0.mk hb
   have HV1 : Aside0 (Below w3.heap.size w3 v1) := ⟨join_below HLAT.out hb⟩
   have F0 := Aside0.mk (And.intro f2 (And.intro fX (And.intro f3 f1)))
   clear f1 f2 f3 f4 f5 fX hb
   refine hK _ _ ⟨⟨_, HV1.out⟩, rfl⟩ ?_
   clear hK K ST
   (refine takeR (i := 1) (by kernel_rfl) (by rfl) ?_ ?_ ?_; (focus exact fun _ _ _ _ h => h); (focus exact ⟨⟨_, HV1.out⟩, rfl⟩); intro K hK; go_simp; (with_reducible refine hK _ ?_); clear hK K)
   refine hall2 (i := 4) (j := 13) (by kernel_rfl) (by rfl) (by rfl) (fun K hK => ?_) (fun K hK => ?_)
   · go_simp
     obtain ⟨v2, hv⟩ : ∃ x, v1.alloc (Obj.cells #[.int .i32 10, .int .i32 10, .int .i32 98, .int .i32 98] 80) = x := ⟨_, rfl⟩
     rw [hv]
     obtain ⟨g4, hg⟩ : ∃ x, v1.heap.size = x := ⟨_, rfl⟩
     rw [hg]
     have F4 : Aside0 (v2.heap[g4]? = some (.cells #[.int .i32 10, .int .i32 10, .int .i32 98, .int .i32 98] 80 (0, 0))) := ⟨by rw [← hv, ← hg]; exact blk_new _ _⟩
     have GW4 : Aside0 (W.heap.size < g4) := ⟨by have h1 := HW3.out; have h2 := HV1.out.size; omega⟩
     have ST : Aside0 (Below v1.heap.size v1 v2) := ⟨hv ▸ below1 _ _⟩
     have HV2 : Aside0 (Below w3.heap.size w3 v2) := ⟨join_below HV1.out ST.out⟩
     clear hv hg
     have G0 := Aside0.mk (Nat.lt_of_lt_of_le G0.out ST.out.size)
     have F0 := Aside0.mk (And.intro (Kd.F_below F0.out.1 ST.out) (And.intro (blk_below F0.out.2.1 ST.out) F0.out.2.2))
     refine hK _ _ ⟨⟨_, HV2.out⟩, rfl⟩ ?_
     clear hK K ST
     iterate 2 ((first | refine takeR (i := 5) (by decide +kernel) (by rfl) ?_ ?_ ?_ | refine takeR (i := 6) (by decide +kernel) (by rfl) ?_ ?_ ?_); (focus exact fun _ _ _ _ h => h); (focus exact ⟨⟨_, HV2.out⟩, rfl⟩); intro K hK; go_simp; (with_reducible refine hK _ ?_); clear hK K)
     refine hall2 (i := 11) (j := 13) (by kernel_rfl) (by rfl) (by rfl) (fun K hK => ?_) (fun K hK => ?_)
     · go_simp
       obtain ⟨v3, hv⟩ : ∃ x, v2.alloc (Obj.cells #[.string ⟨#[97]⟩, .int .i64 0, .int .i64 1, .int .i64 2, .slice (some ⟨a0, 0, none⟩) 1 c0, .slice E0 0 e0, .string ⟨#[98]⟩, .int .i64 0, .int .i64 2, .int .i64 2, .slice (some ⟨g4, 0, none⟩) 2 2, .slice none 0 0, .string ⟨#[111]⟩, .int .i64 1, .int .i64 3, .int .i64 2, .slice (some ⟨a1, 0, none⟩) 1 c1, .slice A2 0 c2, .string ⟨#[99]⟩, .int .i64 2, .int .i64 4, .int .i64 2, .slice (some ⟨b1, 0, none⟩) 1 d1, .slice B2 0 d2] 40) = x := ⟨_, rfl⟩
       rw [hv]
       obtain ⟨gR, hg⟩ : ∃ x, v2.heap.size = x := ⟨_, rfl⟩
       rw [hg]
       have F11 : Aside0 (v3.heap[gR]? = some (.cells #[.string ⟨#[97]⟩, .int .i64 0, .int .i64 1, .int .i64 2, .slice (some ⟨a0, 0, none⟩) 1 c0, .slice E0 0 e0, .string ⟨#[98]⟩, .int .i64 0, .int .i64 2, .int .i64 2, .slice (some ⟨g4, 0, none⟩) 2 2, .slice none 0 0, .string ⟨#[111]⟩, .int .i64 1, .int .i64 3, .int .i64 2, .slice (some ⟨a1, 0, none⟩) 1 c1, .slice A2 0 c2, .string ⟨#[99]⟩, .int .i64 2, .int .i64 4, .int .i64 2, .slice (some ⟨b1, 0, none⟩) 1 d1, .slice B2 0 d2] 40 (0, 0))) := ⟨by rw [← hv, ← hg]; exact blk_new _ _⟩
       have GW11 : Aside0 (W.heap.size < gR) := ⟨by have h1 := HW3.out; have h2 := HV2.out.size; omega⟩
       have ST : Aside0 (Below v2.heap.size v2 v3) := ⟨hv ▸ below1 _ _⟩
       have HV3 : Aside0 (Below w3.heap.size w3 v3) := ⟨join_below HV2.out ST.out⟩
       clear hv hg
       have G0 := Aside0.mk (Nat.lt_of_lt_of_le G0.out ST.out.size)
       have F0 := Aside0.mk (And.intro (Kd.F_below F0.out.1 ST.out) (And.intro (blk_below F0.out.2.1 ST.out) F0.out.2.2))
       have F4 := Aside0.mk (blk_below F4.out ST.out)
       refine hK _ _ ⟨⟨_, HV3.out⟩, rfl⟩ ?_
       clear hK K ST
       (refine takeR (i := 12) (by kernel_rfl) (by rfl) ?_ ?_ ?_; (focus exact fun _ _ _ _ h => h); (focus exact ⟨⟨_, HV3.out⟩, rfl⟩); intro K hK; go_simp; (with_reducible refine hK _ ?_); clear hK K)
       refine hall1 (i := 13) (by kernel_rfl) (by rfl) (fun K hK => ?_)
       go_simp
       obtain ⟨v4, hv⟩ : ∃ x, v3.alloc (Obj.cells #[.slice none 0 0, .slice none 0 0] 25) = x := ⟨_, rfl⟩
       rw [hv]
       obtain ⟨g13, hg⟩ : ∃ x, v3.heap.size = x := ⟨_, rfl⟩
       rw [hg]
       have F13 : Aside0 (v4.heap[g13]? = some (.cells #[.slice none 0 0, .slice none 0 0] 25 (0, 0))) := ⟨by rw [← hv, ← hg]; exact blk_new _ _⟩
       have GW13 : Aside0 (W.heap.size < g13) := ⟨by have h1 := HW3.out; have h2 := HV3.out.size; omega⟩
       have ST : Aside0 (Below v3.heap.size v3 v4) := ⟨hv ▸ below1 _ _⟩
       have HV4 : Aside0 (Below w3.heap.size w3 v4) := ⟨join_below HV3.out ST.out⟩
       have FN : Aside0 (a0 ≠ g13) := ⟨by have := G0.out; omega⟩
       have HGE : Aside0 (w3.heap.size ≤ g13) := ⟨hg ▸ HV3.out.size⟩
       clear hv hg
       have G0 := Aside0.mk (Nat.lt_of_lt_of_le G0.out ST.out.size)
       have F0 := Aside0.mk (And.intro (Kd.F_below F0.out.1 ST.out) (And.intro (blk_below F0.out.2.1 ST.out) F0.out.2.2))
       have F4 := Aside0.mk (blk_below F4.out ST.out)
       have F11 := Aside0.mk (blk_below F11.out ST.out)
       refine hK _ _ ⟨⟨_, HV4.out⟩, rfl⟩ ?_
       clear hK K ST
       have ne4 : g4 ≠ g13 := fun e => by have h := F4.out; rw [e, F13.out] at h; simp at h
       have neR : gR ≠ g13 := fun e => by have h := F11.out; rw [e, F13.out] at h; simp at h
       have y0 : World.cell? v4 ⟨g13, 0, none⟩ = some (.slice none 0 0) := (blk_cell F13.out 0).trans rfl
       have y1 : World.cell? v4 ⟨g13, 1, none⟩ = some (.slice none 0 0) := (blk_cell F13.out 1).trans rfl
       have z0 := blk_frozen F13.out 0
       have z1 := blk_frozen F13.out 1
       have hp1 := blk_put F13.out 0 (.slice (some ⟨gR, 0, none⟩) 4 4) rfl
       have y2 : (World.setCell v4 ⟨g13, 0, none⟩ (.slice (some ⟨gR, 0, none⟩) 4 4)).cell? ⟨g13, 1, none⟩ = some (.slice none 0 0) := (blk_cell hp1 1).trans rfl
       have z2 := blk_frozen hp1 1
       have hp2 := blk_put hp1 1 (.slice none 0 0) rfl
       obtain ⟨uf, huf⟩ : ∃ x, (World.setCell v4 ⟨g13, 0, none⟩ (.slice (some ⟨gR, 0, none⟩) 4 4)).setCell ⟨g13, 1, none⟩ (.slice none 0 0) = x := ⟨_, rfl⟩
       have HBF : Aside0 (Below w3.heap.size w3 uf) := ⟨huf ▸ (HV4.out.setCell HGE.out _).setCell HGE.out _⟩
       have f11 := blk_far (p := ⟨g13, 1, none⟩) (blk_far (p := ⟨g13, 0, none⟩) F11.out neR (.slice (some ⟨gR, 0, none⟩) 4 4)) neR (.slice none 0 0)
       have f4 := blk_far (p := ⟨g13, 1, none⟩) (blk_far (p := ⟨g13, 0, none⟩) F4.out ne4 (.slice (some ⟨gR, 0, none⟩) 4 4)) ne4 (.slice none 0 0)
       have f0 := Kd.F_far (p := ⟨g13, 1, none⟩) (Kd.F_far (p := ⟨g13, 0, none⟩) F0.out.1 (fun k hk => by rw [hk]; exact FN.out) (.slice (some ⟨gR, 0, none⟩) 4 4)) (fun k hk => by rw [hk]; exact FN.out) (.slice none 0 0)
       have fx := blk_far (p := ⟨g13, 1, none⟩) (blk_far (p := ⟨g13, 0, none⟩) F0.out.2.1 FN.out (.slice (some ⟨gR, 0, none⟩) 4 4)) FN.out (.slice none 0 0)
       rw [huf] at hp2 f11 f4 f0 fx
       have HF := Aside0.mk hp2
       have HX := Aside0.mk (And.intro f11 (And.intro f4 (And.intro f0 (And.intro fx F0.out.2.2))))
       clear hp2 f11 f4 f0 fx ne4 neR hp1
       refine hall1 (i := 14) (by kernel_rfl) (by rfl) (fun K hK => ?_)
       go_simp
       clear huf y0 y1 y2 z0 z1 z2 F0 F4 F11 F13
       refine hK _ _ ⟨⟨_, HBF.out⟩, rfl⟩ ?_
       clear hK K
       refine wpAnyH_done (by kernel_rfl) ?_ _
       go_wp2
       obtain ⟨wl, hwl⟩ : ∃ x, (uf.alloc (Obj.cells #[.string ⟨#[111]⟩] 9)).alloc (Obj.cells #[.string ⟨#[99]⟩] 9) = x := ⟨_, rfl⟩
       rw [hwl]
       have ST : Aside0 (Below uf.heap.size uf wl) := ⟨hwl ▸ below_alloc (below1 _ _) _⟩
       clear hwl
       go_loopw [8] (fun i w' => i = .int .i64 0 ∧ w' = wl) (fun _ _ => 0)
       case atStart => exact ⟨rfl, rfl⟩
       case round =>
        obtain ⟨rfl, hwr⟩ := hrel
        rw [hwr]
        clear hwr
        have hg := blk_below HF.out ST.out
        have y0 : wl.cell? ⟨g13, 0, none⟩ = some (.slice (some ⟨gR, 0, none⟩) 4 4) := (blk_cell hg 0).trans rfl
        have y1 : wl.cell? ⟨g13, 1, none⟩ = some (.slice none 0 0) := (blk_cell hg 1).trans rfl
        have hw := blk_below (blk_below (blk_below (blk_below HBLK.out HB12.out) HB3.out) HBF.out) ST.out
        have x0 : wl.cell? ⟨W.heap.size, 0, none⟩ = some (.slice none 0 0) := (blk_cell hw 0).trans rfl
        have x1 : wl.cell? ⟨W.heap.size, 1, none⟩ = some (.slice none 0 0) := (blk_cell hw 1).trans rfl
        have z0 := blk_frozen hw 0
        have z1 := blk_frozen hw 1
        have hp1 := blk_put hw 0 (.slice (some ⟨gR, 0, none⟩) 4 4) rfl
        have x2 : (wl.setCell ⟨W.heap.size, 0, none⟩ (.slice (some ⟨gR, 0, none⟩) 4 4)).cell? ⟨W.heap.size, 1, none⟩ = some (.slice none 0 0) := (blk_cell hp1 1).trans rfl
        have z2 := blk_frozen hp1 1
        have HP2 := Aside0.mk (blk_put hp1 1 (.slice none 0 0) rfl)
        clear hg hw hp1
        go_wp2
        refine bodyPost_ret (results_cell_row rfl _ _ W.heap.size 25 #[.slice (some ⟨gR, 0, none⟩) 4 4, .slice none 0 0] (0, 0) _ rfl HP2.out Tryz.underlying25 rfl (by kernel_rfl)) rfl ?_
        have hx := HX.out
        have WN : ∀ g : Nat, W.heap.size < g → g ≠ W.heap.size := fun g h => by omega
        have k1 := blk_far (p := ⟨W.heap.size, 1, none⟩) (blk_far (p := ⟨W.heap.size, 0, none⟩) (blk_below hx.1 ST.out) (WN _ GW11.out) (.slice (some ⟨gR, 0, none⟩) 4 4)) (WN _ GW11.out) (.slice none 0 0)
        have k2 := blk_far (p := ⟨W.heap.size, 1, none⟩) (blk_far (p := ⟨W.heap.size, 0, none⟩) (blk_below hx.2.1 ST.out) (WN _ GW4.out) (.slice (some ⟨gR, 0, none⟩) 4 4)) (WN _ GW4.out) (.slice none 0 0)
        have k3 := f_put (m := 4) (c := 4) GW.out ⟨gR, 0, none⟩ (Kd.F_below hx.2.2.1 ST.out)
        have c3 := blk_far (p := ⟨W.heap.size, 1, none⟩) (blk_far (p := ⟨W.heap.size, 0, none⟩) (blk_below hx.2.2.2.1 ST.out) (WN _ GW.out) (.slice (some ⟨gR, 0, none⟩) 4 4)) (WN _ GW.out) (.slice none 0 0)
        have BB := join_below HB3.out (join_below HBF.out ST.out)
        have k4 := f_put (m := 4) (c := 4) N1.out ⟨gR, 0, none⟩ (Kd.F_below (Kd.F_below H1.out.2.1 HB12.out) BB)
        have c4 := blk_far (p := ⟨W.heap.size, 1, none⟩) (blk_far (p := ⟨W.heap.size, 0, none⟩) (blk_below (blk_below H1.out.2.2.1 HB12.out) BB) (WN _ N1.out) (.slice (some ⟨gR, 0, none⟩) 4 4)) (WN _ N1.out) (.slice none 0 0)
        have k5 := f_put (m := 4) (c := 4) N2.out ⟨gR, 0, none⟩ (Kd.F_below H2.out.2.1 BB)
        have c5 := blk_far (p := ⟨W.heap.size, 1, none⟩) (blk_far (p := ⟨W.heap.size, 0, none⟩) (blk_below H2.out.2.2.1 BB) (WN _ N2.out) (.slice (some ⟨gR, 0, none⟩) 4 4)) (WN _ N2.out) (.slice none 0 0)
        exact ⟨_, rfl, made_row k1 (range_new k2) hx.2.2.2.2.2 k3 (fun _ => re_none hx.2.2.2.2.1) H1.out.1 k4 (fun _ => re_none H1.out.2.2.2) H2.out.1 k5 (fun _ => re_none H2.out.2.2.2) (Nat.le_of_lt GW11.out) ⟨Nat.le_of_lt GW.out, ne_type c3 k1 (by decide)⟩ ⟨Nat.le_of_lt N1.out, ne_type c4 k1 (by decide)⟩ ⟨Nat.le_of_lt N2.out, ne_type c5 k1 (by decide)⟩ ⟨Nat.le_of_lt GW4.out, ne_type k2 k1 (by decide)⟩, ((join_below HB2.out (join_below HB3.out (join_below HBF.out ST.out))).setCell (Nat.le_refl _) _).setCell (Nat.le_refl _) _⟩
     · go_simp
       obtain ⟨v3, hv⟩ : ∃ x, v2.alloc (Obj.cells #[.slice none 0 0, .slice none 0 0] 25) = x := ⟨_, rfl⟩
       rw [hv]
       obtain ⟨g13, hg⟩ : ∃ x, v2.heap.size = x := ⟨_, rfl⟩
       rw [hg]
       have F13 : Aside0 (v3.heap[g13]? = some (.cells #[.slice none 0 0, .slice none 0 0] 25 (0, 0))) := ⟨by rw [← hv, ← hg]; exact blk_new _ _⟩
       have GW13 : Aside0 (W.heap.size < g13) := ⟨by have h1 := HW3.out; have h2 := HV2.out.size; omega⟩
       have ST : Aside0 (Below v2.heap.size v2 v3) := ⟨hv ▸ below1 _ _⟩
       have HV3 : Aside0 (Below w3.heap.size w3 v3) := ⟨join_below HV2.out ST.out⟩
       have FN : Aside0 (a0 ≠ g13) := ⟨by have := G0.out; omega⟩
       have HGE : Aside0 (w3.heap.size ≤ g13) := ⟨hg ▸ HV2.out.size⟩
       clear hv hg
       have G0 := Aside0.mk (Nat.lt_of_lt_of_le G0.out ST.out.size)
       have F0 := Aside0.mk (And.intro (Kd.F_below F0.out.1 ST.out) (And.intro (blk_below F0.out.2.1 ST.out) F0.out.2.2))
       have F4 := Aside0.mk (blk_below F4.out ST.out)
       refine hK _ _ ⟨⟨_, HV3.out⟩, rfl⟩ ?_
       clear hK K ST
       refine hall1 (i := 11) (by kernel_rfl) (by rfl) (fun K hK => ?_)
       go_simp
       obtain ⟨v4, hv⟩ : ∃ x, v3.alloc (Obj.cells #[.string ⟨#[97]⟩, .int .i64 0, .int .i64 1, .int .i64 2, .slice (some ⟨a0, 0, none⟩) 1 c0, .slice E0 0 e0, .string ⟨#[98]⟩, .int .i64 0, .int .i64 2, .int .i64 2, .slice (some ⟨g4, 0, none⟩) 2 2, .slice none 0 0, .string ⟨#[111]⟩, .int .i64 1, .int .i64 3, .int .i64 2, .slice (some ⟨a1, 0, none⟩) 1 c1, .slice A2 0 c2, .string ⟨#[99]⟩, .int .i64 2, .int .i64 4, .int .i64 2, .slice (some ⟨b1, 0, none⟩) 1 d1, .slice B2 0 d2] 40) = x := ⟨_, rfl⟩
       rw [hv]
       obtain ⟨gR, hg⟩ : ∃ x, v3.heap.size = x := ⟨_, rfl⟩
       rw [hg]
       have F11 : Aside0 (v4.heap[gR]? = some (.cells #[.string ⟨#[97]⟩, .int .i64 0, .int .i64 1, .int .i64 2, .slice (some ⟨a0, 0, none⟩) 1 c0, .slice E0 0 e0, .string ⟨#[98]⟩, .int .i64 0, .int .i64 2, .int .i64 2, .slice (some ⟨g4, 0, none⟩) 2 2, .slice none 0 0, .string ⟨#[111]⟩, .int .i64 1, .int .i64 3, .int .i64 2, .slice (some ⟨a1, 0, none⟩) 1 c1, .slice A2 0 c2, .string ⟨#[99]⟩, .int .i64 2, .int .i64 4, .int .i64 2, .slice (some ⟨b1, 0, none⟩) 1 d1, .slice B2 0 d2] 40 (0, 0))) := ⟨by rw [← hv, ← hg]; exact blk_new _ _⟩
       have GW11 : Aside0 (W.heap.size < gR) := ⟨by have h1 := HW3.out; have h2 := HV3.out.size; omega⟩
       have ST : Aside0 (Below v3.heap.size v3 v4) := ⟨hv ▸ below1 _ _⟩
       have HV4 : Aside0 (Below w3.heap.size w3 v4) := ⟨join_below HV3.out ST.out⟩
       clear hv hg
       have G0 := Aside0.mk (Nat.lt_of_lt_of_le G0.out ST.out.size)
       have F0 := Aside0.mk (And.intro (Kd.F_below F0.out.1 ST.out) (And.intro (blk_below F0.out.2.1 ST.out) F0.out.2.2))
       have F4 := Aside0.mk (blk_below F4.out ST.out)
       have F13 := Aside0.mk (blk_below F13.out ST.out)
       refine hK _ _ ⟨⟨_, HV4.out⟩, rfl⟩ ?_
       clear hK K ST
       (refine takeR (i := 12) (by kernel_rfl) (by rfl) ?_ ?_ ?_; (focus exact fun _ _ _ _ h => h); (focus exact ⟨⟨_, HV4.out⟩, rfl⟩); intro K hK; go_simp; (with_reducible refine hK _ ?_); clear hK K)
       have ne4 : g4 ≠ g13 := fun e => by have h := F4.out; rw [e, F13.out] at h; simp at h
       have neR : gR ≠ g13 := fun e => by have h := F11.out; rw [e, F13.out] at h; simp at h
       have y0 : World.cell? v4 ⟨g13, 0, none⟩ = some (.slice none 0 0) := (blk_cell F13.out 0).trans rfl
       have y1 : World.cell? v4 ⟨g13, 1, none⟩ = some (.slice none 0 0) := (blk_cell F13.out 1).trans rfl
       have z0 := blk_frozen F13.out 0
       have z1 := blk_frozen F13.out 1
       have hp1 := blk_put F13.out 0 (.slice (some ⟨gR, 0, none⟩) 4 4) rfl
       have y2 : (World.setCell v4 ⟨g13, 0, none⟩ (.slice (some ⟨gR, 0, none⟩) 4 4)).cell? ⟨g13, 1, none⟩ = some (.slice none 0 0) := (blk_cell hp1 1).trans rfl
       have z2 := blk_frozen hp1 1
       have hp2 := blk_put hp1 1 (.slice none 0 0) rfl
       obtain ⟨uf, huf⟩ : ∃ x, (World.setCell v4 ⟨g13, 0, none⟩ (.slice (some ⟨gR, 0, none⟩) 4 4)).setCell ⟨g13, 1, none⟩ (.slice none 0 0) = x := ⟨_, rfl⟩
       have HBF : Aside0 (Below w3.heap.size w3 uf) := ⟨huf ▸ (HV4.out.setCell HGE.out _).setCell HGE.out _⟩
       have f11 := blk_far (p := ⟨g13, 1, none⟩) (blk_far (p := ⟨g13, 0, none⟩) F11.out neR (.slice (some ⟨gR, 0, none⟩) 4 4)) neR (.slice none 0 0)
       have f4 := blk_far (p := ⟨g13, 1, none⟩) (blk_far (p := ⟨g13, 0, none⟩) F4.out ne4 (.slice (some ⟨gR, 0, none⟩) 4 4)) ne4 (.slice none 0 0)
       have f0 := Kd.F_far (p := ⟨g13, 1, none⟩) (Kd.F_far (p := ⟨g13, 0, none⟩) F0.out.1 (fun k hk => by rw [hk]; exact FN.out) (.slice (some ⟨gR, 0, none⟩) 4 4)) (fun k hk => by rw [hk]; exact FN.out) (.slice none 0 0)
       have fx := blk_far (p := ⟨g13, 1, none⟩) (blk_far (p := ⟨g13, 0, none⟩) F0.out.2.1 FN.out (.slice (some ⟨gR, 0, none⟩) 4 4)) FN.out (.slice none 0 0)
       rw [huf] at hp2 f11 f4 f0 fx
       have HF := Aside0.mk hp2
       have HX := Aside0.mk (And.intro f11 (And.intro f4 (And.intro f0 (And.intro fx F0.out.2.2))))
       clear hp2 f11 f4 f0 fx ne4 neR hp1
       refine hall1 (i := 14) (by kernel_rfl) (by rfl) (fun K hK => ?_)
       go_simp
       clear huf y0 y1 y2 z0 z1 z2 F0 F4 F11 F13
       refine hK _ _ ⟨⟨_, HBF.out⟩, rfl⟩ ?_
       clear hK K
       refine wpAnyH_done (by kernel_rfl) ?_ _
       go_wp2
       obtain ⟨wl, hwl⟩ : ∃ x, (uf.alloc (Obj.cells #[.string ⟨#[111]⟩] 9)).alloc (Obj.cells #[.string ⟨#[99]⟩] 9) = x := ⟨_, rfl⟩
       rw [hwl]
       have ST : Aside0 (Below uf.heap.size uf wl) := ⟨hwl ▸ below_alloc (below1 _ _) _⟩
       clear hwl
       go_loopw [8] (fun i w' => i = .int .i64 0 ∧ w' = wl) (fun _ _ => 0)
       case atStart => exact ⟨rfl, rfl⟩
       case round =>
        obtain ⟨rfl, hwr⟩ := hrel
        rw [hwr]
        clear hwr
        have hg := blk_below HF.out ST.out
        have y0 : wl.cell? ⟨g13, 0, none⟩ = some (.slice (some ⟨gR, 0, none⟩) 4 4) := (blk_cell hg 0).trans rfl
        have y1 : wl.cell? ⟨g13, 1, none⟩ = some (.slice none 0 0) := (blk_cell hg 1).trans rfl
        have hw := blk_below (blk_below (blk_below (blk_below HBLK.out HB12.out) HB3.out) HBF.out) ST.out
        have x0 : wl.cell? ⟨W.heap.size, 0, none⟩ = some (.slice none 0 0) := (blk_cell hw 0).trans rfl
        have x1 : wl.cell? ⟨W.heap.size, 1, none⟩ = some (.slice none 0 0) := (blk_cell hw 1).trans rfl
        have z0 := blk_frozen hw 0
        have z1 := blk_frozen hw 1
        have hp1 := blk_put hw 0 (.slice (some ⟨gR, 0, none⟩) 4 4) rfl
        have x2 : (wl.setCell ⟨W.heap.size, 0, none⟩ (.slice (some ⟨gR, 0, none⟩) 4 4)).cell? ⟨W.heap.size, 1, none⟩ = some (.slice none 0 0) := (blk_cell hp1 1).trans rfl
        have z2 := blk_frozen hp1 1
        have HP2 := Aside0.mk (blk_put hp1 1 (.slice none 0 0) rfl)
        clear hg hw hp1
        go_wp2
        refine bodyPost_ret (results_cell_row rfl _ _ W.heap.size 25 #[.slice (some ⟨gR, 0, none⟩) 4 4, .slice none 0 0] (0, 0) _ rfl HP2.out Tryz.underlying25 rfl (by kernel_rfl)) rfl ?_
        have hx := HX.out
        have WN : ∀ g : Nat, W.heap.size < g → g ≠ W.heap.size := fun g h => by omega
        have k1 := blk_far (p := ⟨W.heap.size, 1, none⟩) (blk_far (p := ⟨W.heap.size, 0, none⟩) (blk_below hx.1 ST.out) (WN _ GW11.out) (.slice (some ⟨gR, 0, none⟩) 4 4)) (WN _ GW11.out) (.slice none 0 0)
        have k2 := blk_far (p := ⟨W.heap.size, 1, none⟩) (blk_far (p := ⟨W.heap.size, 0, none⟩) (blk_below hx.2.1 ST.out) (WN _ GW4.out) (.slice (some ⟨gR, 0, none⟩) 4 4)) (WN _ GW4.out) (.slice none 0 0)
        have k3 := f_put (m := 4) (c := 4) GW.out ⟨gR, 0, none⟩ (Kd.F_below hx.2.2.1 ST.out)
        have c3 := blk_far (p := ⟨W.heap.size, 1, none⟩) (blk_far (p := ⟨W.heap.size, 0, none⟩) (blk_below hx.2.2.2.1 ST.out) (WN _ GW.out) (.slice (some ⟨gR, 0, none⟩) 4 4)) (WN _ GW.out) (.slice none 0 0)
        have BB := join_below HB3.out (join_below HBF.out ST.out)
        have k4 := f_put (m := 4) (c := 4) N1.out ⟨gR, 0, none⟩ (Kd.F_below (Kd.F_below H1.out.2.1 HB12.out) BB)
        have c4 := blk_far (p := ⟨W.heap.size, 1, none⟩) (blk_far (p := ⟨W.heap.size, 0, none⟩) (blk_below (blk_below H1.out.2.2.1 HB12.out) BB) (WN _ N1.out) (.slice (some ⟨gR, 0, none⟩) 4 4)) (WN _ N1.out) (.slice none 0 0)
        have k5 := f_put (m := 4) (c := 4) N2.out ⟨gR, 0, none⟩ (Kd.F_below H2.out.2.1 BB)
        have c5 := blk_far (p := ⟨W.heap.size, 1, none⟩) (blk_far (p := ⟨W.heap.size, 0, none⟩) (blk_below H2.out.2.2.1 BB) (WN _ N2.out) (.slice (some ⟨gR, 0, none⟩) 4 4)) (WN _ N2.out) (.slice none 0 0)
        exact ⟨_, rfl, made_row k1 (range_new k2) hx.2.2.2.2.2 k3 (fun _ => re_none hx.2.2.2.2.1) H1.out.1 k4 (fun _ => re_none H1.out.2.2.2) H2.out.1 k5 (fun _ => re_none H2.out.2.2.2) (Nat.le_of_lt GW11.out) ⟨Nat.le_of_lt GW.out, ne_type c3 k1 (by decide)⟩ ⟨Nat.le_of_lt N1.out, ne_type c4 k1 (by decide)⟩ ⟨Nat.le_of_lt N2.out, ne_type c5 k1 (by decide)⟩ ⟨Nat.le_of_lt GW4.out, ne_type k2 k1 (by decide)⟩, ((join_below HB2.out (join_below HB3.out (join_below HBF.out ST.out))).setCell (Nat.le_refl _) _).setCell (Nat.le_refl _) _⟩
   · go_simp
     obtain ⟨v2, hv⟩ : ∃ x, v1.alloc (Obj.cells #[.slice none 0 0, .slice none 0 0] 25) = x := ⟨_, rfl⟩
     rw [hv]
     obtain ⟨g13, hg⟩ : ∃ x, v1.heap.size = x := ⟨_, rfl⟩
     rw [hg]
     have F13 : Aside0 (v2.heap[g13]? = some (.cells #[.slice none 0 0, .slice none 0 0] 25 (0, 0))) := ⟨by rw [← hv, ← hg]; exact blk_new _ _⟩
     have GW13 : Aside0 (W.heap.size < g13) := ⟨by have h1 := HW3.out; have h2 := HV1.out.size; omega⟩
     have ST : Aside0 (Below v1.heap.size v1 v2) := ⟨hv ▸ below1 _ _⟩
     have HV2 : Aside0 (Below w3.heap.size w3 v2) := ⟨join_below HV1.out ST.out⟩
     have FN : Aside0 (a0 ≠ g13) := ⟨by have := G0.out; omega⟩
     have HGE : Aside0 (w3.heap.size ≤ g13) := ⟨hg ▸ HV1.out.size⟩
     clear hv hg
     have G0 := Aside0.mk (Nat.lt_of_lt_of_le G0.out ST.out.size)
     have F0 := Aside0.mk (And.intro (Kd.F_below F0.out.1 ST.out) (And.intro (blk_below F0.out.2.1 ST.out) F0.out.2.2))
     refine hK _ _ ⟨⟨_, HV2.out⟩, rfl⟩ ?_
     clear hK K ST
     refine hall1 (i := 4) (by kernel_rfl) (by rfl) (fun K hK => ?_)
     go_simp
     obtain ⟨v3, hv⟩ : ∃ x, v2.alloc (Obj.cells #[.int .i32 10, .int .i32 10, .int .i32 98, .int .i32 98] 80) = x := ⟨_, rfl⟩
     rw [hv]
     obtain ⟨g4, hg⟩ : ∃ x, v2.heap.size = x := ⟨_, rfl⟩
     rw [hg]
     have F4 : Aside0 (v3.heap[g4]? = some (.cells #[.int .i32 10, .int .i32 10, .int .i32 98, .int .i32 98] 80 (0, 0))) := ⟨by rw [← hv, ← hg]; exact blk_new _ _⟩
     have GW4 : Aside0 (W.heap.size < g4) := ⟨by have h1 := HW3.out; have h2 := HV2.out.size; omega⟩
     have ST : Aside0 (Below v2.heap.size v2 v3) := ⟨hv ▸ below1 _ _⟩
     have HV3 : Aside0 (Below w3.heap.size w3 v3) := ⟨join_below HV2.out ST.out⟩
     clear hv hg
     have G0 := Aside0.mk (Nat.lt_of_lt_of_le G0.out ST.out.size)
     have F0 := Aside0.mk (And.intro (Kd.F_below F0.out.1 ST.out) (And.intro (blk_below F0.out.2.1 ST.out) F0.out.2.2))
     have F13 := Aside0.mk (blk_below F13.out ST.out)
     refine hK _ _ ⟨⟨_, HV3.out⟩, rfl⟩ ?_
     clear hK K ST
     iterate 2 ((first | refine takeR (i := 5) (by decide +kernel) (by rfl) ?_ ?_ ?_ | refine takeR (i := 6) (by decide +kernel) (by rfl) ?_ ?_ ?_); (focus exact fun _ _ _ _ h => h); (focus exact ⟨⟨_, HV3.out⟩, rfl⟩); intro K hK; go_simp; (with_reducible refine hK _ ?_); clear hK K)
     refine hall1 (i := 11) (by kernel_rfl) (by rfl) (fun K hK => ?_)
     go_simp
     obtain ⟨v4, hv⟩ : ∃ x, v3.alloc (Obj.cells #[.string ⟨#[97]⟩, .int .i64 0, .int .i64 1, .int .i64 2, .slice (some ⟨a0, 0, none⟩) 1 c0, .slice E0 0 e0, .string ⟨#[98]⟩, .int .i64 0, .int .i64 2, .int .i64 2, .slice (some ⟨g4, 0, none⟩) 2 2, .slice none 0 0, .string ⟨#[111]⟩, .int .i64 1, .int .i64 3, .int .i64 2, .slice (some ⟨a1, 0, none⟩) 1 c1, .slice A2 0 c2, .string ⟨#[99]⟩, .int .i64 2, .int .i64 4, .int .i64 2, .slice (some ⟨b1, 0, none⟩) 1 d1, .slice B2 0 d2] 40) = x := ⟨_, rfl⟩
     rw [hv]
     obtain ⟨gR, hg⟩ : ∃ x, v3.heap.size = x := ⟨_, rfl⟩
     rw [hg]
     have F11 : Aside0 (v4.heap[gR]? = some (.cells #[.string ⟨#[97]⟩, .int .i64 0, .int .i64 1, .int .i64 2, .slice (some ⟨a0, 0, none⟩) 1 c0, .slice E0 0 e0, .string ⟨#[98]⟩, .int .i64 0, .int .i64 2, .int .i64 2, .slice (some ⟨g4, 0, none⟩) 2 2, .slice none 0 0, .string ⟨#[111]⟩, .int .i64 1, .int .i64 3, .int .i64 2, .slice (some ⟨a1, 0, none⟩) 1 c1, .slice A2 0 c2, .string ⟨#[99]⟩, .int .i64 2, .int .i64 4, .int .i64 2, .slice (some ⟨b1, 0, none⟩) 1 d1, .slice B2 0 d2] 40 (0, 0))) := ⟨by rw [← hv, ← hg]; exact blk_new _ _⟩
     have GW11 : Aside0 (W.heap.size < gR) := ⟨by have h1 := HW3.out; have h2 := HV3.out.size; omega⟩
     have ST : Aside0 (Below v3.heap.size v3 v4) := ⟨hv ▸ below1 _ _⟩
     have HV4 : Aside0 (Below w3.heap.size w3 v4) := ⟨join_below HV3.out ST.out⟩
     clear hv hg
     have G0 := Aside0.mk (Nat.lt_of_lt_of_le G0.out ST.out.size)
     have F0 := Aside0.mk (And.intro (Kd.F_below F0.out.1 ST.out) (And.intro (blk_below F0.out.2.1 ST.out) F0.out.2.2))
     have F13 := Aside0.mk (blk_below F13.out ST.out)
     have F4 := Aside0.mk (blk_below F4.out ST.out)
     refine hK _ _ ⟨⟨_, HV4.out⟩, rfl⟩ ?_
     clear hK K ST
     (refine takeR (i := 12) (by kernel_rfl) (by rfl) ?_ ?_ ?_; (focus exact fun _ _ _ _ h => h); (focus exact ⟨⟨_, HV4.out⟩, rfl⟩); intro K hK; go_simp; (with_reducible refine hK _ ?_); clear hK K)
     have ne4 : g4 ≠ g13 := fun e => by have h := F4.out; rw [e, F13.out] at h; simp at h
     have neR : gR ≠ g13 := fun e => by have h := F11.out; rw [e, F13.out] at h; simp at h
     have y0 : World.cell? v4 ⟨g13, 0, none⟩ = some (.slice none 0 0) := (blk_cell F13.out 0).trans rfl
     have y1 : World.cell? v4 ⟨g13, 1, none⟩ = some (.slice none 0 0) := (blk_cell F13.out 1).trans rfl
     have z0 := blk_frozen F13.out 0
     have z1 := blk_frozen F13.out 1
     have hp1 := blk_put F13.out 0 (.slice (some ⟨gR, 0, none⟩) 4 4) rfl
     have y2 : (World.setCell v4 ⟨g13, 0, none⟩ (.slice (some ⟨gR, 0, none⟩) 4 4)).cell? ⟨g13, 1, none⟩ = some (.slice none 0 0) := (blk_cell hp1 1).trans rfl
     have z2 := blk_frozen hp1 1
     have hp2 := blk_put hp1 1 (.slice none 0 0) rfl
     obtain ⟨uf, huf⟩ : ∃ x, (World.setCell v4 ⟨g13, 0, none⟩ (.slice (some ⟨gR, 0, none⟩) 4 4)).setCell ⟨g13, 1, none⟩ (.slice none 0 0) = x := ⟨_, rfl⟩
     have HBF : Aside0 (Below w3.heap.size w3 uf) := ⟨huf ▸ (HV4.out.setCell HGE.out _).setCell HGE.out _⟩
     have f11 := blk_far (p := ⟨g13, 1, none⟩) (blk_far (p := ⟨g13, 0, none⟩) F11.out neR (.slice (some ⟨gR, 0, none⟩) 4 4)) neR (.slice none 0 0)
     have f4 := blk_far (p := ⟨g13, 1, none⟩) (blk_far (p := ⟨g13, 0, none⟩) F4.out ne4 (.slice (some ⟨gR, 0, none⟩) 4 4)) ne4 (.slice none 0 0)
     have f0 := Kd.F_far (p := ⟨g13, 1, none⟩) (Kd.F_far (p := ⟨g13, 0, none⟩) F0.out.1 (fun k hk => by rw [hk]; exact FN.out) (.slice (some ⟨gR, 0, none⟩) 4 4)) (fun k hk => by rw [hk]; exact FN.out) (.slice none 0 0)
     have fx := blk_far (p := ⟨g13, 1, none⟩) (blk_far (p := ⟨g13, 0, none⟩) F0.out.2.1 FN.out (.slice (some ⟨gR, 0, none⟩) 4 4)) FN.out (.slice none 0 0)
     rw [huf] at hp2 f11 f4 f0 fx
     have HF := Aside0.mk hp2
     have HX := Aside0.mk (And.intro f11 (And.intro f4 (And.intro f0 (And.intro fx F0.out.2.2))))
     clear hp2 f11 f4 f0 fx ne4 neR hp1
     refine hall1 (i := 14) (by kernel_rfl) (by rfl) (fun K hK => ?_)
     go_simp
     clear huf y0 y1 y2 z0 z1 z2 F0 F4 F11 F13
     refine hK _ _ ⟨⟨_, HBF.out⟩, rfl⟩ ?_
     clear hK K
     refine wpAnyH_done (by kernel_rfl) ?_ _
     go_wp2
     obtain ⟨wl, hwl⟩ : ∃ x, (uf.alloc (Obj.cells #[.string ⟨#[111]⟩] 9)).alloc (Obj.cells #[.string ⟨#[99]⟩] 9) = x := ⟨_, rfl⟩
     rw [hwl]
     have ST : Aside0 (Below uf.heap.size uf wl) := ⟨hwl ▸ below_alloc (below1 _ _) _⟩
     clear hwl
     go_loopw [8] (fun i w' => i = .int .i64 0 ∧ w' = wl) (fun _ _ => 0)
     case atStart => exact ⟨rfl, rfl⟩
     case round =>
      obtain ⟨rfl, hwr⟩ := hrel
      rw [hwr]
      clear hwr
      have hg := blk_below HF.out ST.out
      have y0 : wl.cell? ⟨g13, 0, none⟩ = some (.slice (some ⟨gR, 0, none⟩) 4 4) := (blk_cell hg 0).trans rfl
      have y1 : wl.cell? ⟨g13, 1, none⟩ = some (.slice none 0 0) := (blk_cell hg 1).trans rfl
      have hw := blk_below (blk_below (blk_below (blk_below HBLK.out HB12.out) HB3.out) HBF.out) ST.out
      have x0 : wl.cell? ⟨W.heap.size, 0, none⟩ = some (.slice none 0 0) := (blk_cell hw 0).trans rfl
      have x1 : wl.cell? ⟨W.heap.size, 1, none⟩ = some (.slice none 0 0) := (blk_cell hw 1).trans rfl
      have z0 := blk_frozen hw 0
      have z1 := blk_frozen hw 1
      have hp1 := blk_put hw 0 (.slice (some ⟨gR, 0, none⟩) 4 4) rfl
      have x2 : (wl.setCell ⟨W.heap.size, 0, none⟩ (.slice (some ⟨gR, 0, none⟩) 4 4)).cell? ⟨W.heap.size, 1, none⟩ = some (.slice none 0 0) := (blk_cell hp1 1).trans rfl
      have z2 := blk_frozen hp1 1
      have HP2 := Aside0.mk (blk_put hp1 1 (.slice none 0 0) rfl)
      clear hg hw hp1
      go_wp2
      refine bodyPost_ret (results_cell_row rfl _ _ W.heap.size 25 #[.slice (some ⟨gR, 0, none⟩) 4 4, .slice none 0 0] (0, 0) _ rfl HP2.out Tryz.underlying25 rfl (by kernel_rfl)) rfl ?_
      have hx := HX.out
      have WN : ∀ g : Nat, W.heap.size < g → g ≠ W.heap.size := fun g h => by omega
      have k1 := blk_far (p := ⟨W.heap.size, 1, none⟩) (blk_far (p := ⟨W.heap.size, 0, none⟩) (blk_below hx.1 ST.out) (WN _ GW11.out) (.slice (some ⟨gR, 0, none⟩) 4 4)) (WN _ GW11.out) (.slice none 0 0)
      have k2 := blk_far (p := ⟨W.heap.size, 1, none⟩) (blk_far (p := ⟨W.heap.size, 0, none⟩) (blk_below hx.2.1 ST.out) (WN _ GW4.out) (.slice (some ⟨gR, 0, none⟩) 4 4)) (WN _ GW4.out) (.slice none 0 0)
      have k3 := f_put (m := 4) (c := 4) GW.out ⟨gR, 0, none⟩ (Kd.F_below hx.2.2.1 ST.out)
      have c3 := blk_far (p := ⟨W.heap.size, 1, none⟩) (blk_far (p := ⟨W.heap.size, 0, none⟩) (blk_below hx.2.2.2.1 ST.out) (WN _ GW.out) (.slice (some ⟨gR, 0, none⟩) 4 4)) (WN _ GW.out) (.slice none 0 0)
      have BB := join_below HB3.out (join_below HBF.out ST.out)
      have k4 := f_put (m := 4) (c := 4) N1.out ⟨gR, 0, none⟩ (Kd.F_below (Kd.F_below H1.out.2.1 HB12.out) BB)
      have c4 := blk_far (p := ⟨W.heap.size, 1, none⟩) (blk_far (p := ⟨W.heap.size, 0, none⟩) (blk_below (blk_below H1.out.2.2.1 HB12.out) BB) (WN _ N1.out) (.slice (some ⟨gR, 0, none⟩) 4 4)) (WN _ N1.out) (.slice none 0 0)
      have k5 := f_put (m := 4) (c := 4) N2.out ⟨gR, 0, none⟩ (Kd.F_below H2.out.2.1 BB)
      have c5 := blk_far (p := ⟨W.heap.size, 1, none⟩) (blk_far (p := ⟨W.heap.size, 0, none⟩) (blk_below H2.out.2.2.1 BB) (WN _ N2.out) (.slice (some ⟨gR, 0, none⟩) 4 4)) (WN _ N2.out) (.slice none 0 0)
      exact ⟨_, rfl, made_row k1 (range_new k2) hx.2.2.2.2.2 k3 (fun _ => re_none hx.2.2.2.2.1) H1.out.1 k4 (fun _ => re_none H1.out.2.2.2) H2.out.1 k5 (fun _ => re_none H2.out.2.2.2) (Nat.le_of_lt GW11.out) ⟨Nat.le_of_lt GW.out, ne_type c3 k1 (by decide)⟩ ⟨Nat.le_of_lt N1.out, ne_type c4 k1 (by decide)⟩ ⟨Nat.le_of_lt N2.out, ne_type c5 k1 (by decide)⟩ ⟨Nat.le_of_lt GW4.out, ne_type k2 k1 (by decide)⟩, ((join_below HB2.out (join_below HB3.out (join_below HBF.out ST.out))).setCell (Nat.le_refl _) _).setCell (Nat.le_refl _) _⟩
 · go_simp
   obtain ⟨v1, hv⟩ : ∃ x, wd.alloc (Obj.cells #[.int .i32 10, .int .i32 10, .int .i32 98, .int .i32 98] 80) = x := ⟨_, rfl⟩
   rw [hv]
   obtain ⟨g4, hg⟩ : ∃ x, wd.heap.size = x := ⟨_, rfl⟩
   rw [hg]
   have F4 : Aside0 (v1.heap[g4]? = some (.cells #[.int .i32 10, .int .i32 10, .int .i32 98, .int .i32 98] 80 (0, 0))) := ⟨by rw [← hv, ← hg]; exact blk_new _ _⟩
   have GW4 : Aside0 (W.heap.size < g4) := ⟨by have h1 := HW3.out; have h2 := HLAT.out.size; omega⟩
   have ST : Aside0 (Below wd.heap.size wd v1) := ⟨hv ▸ below1 _ _⟩
   have HV1 : Aside0 (Below w3.heap.size w3 v1) := ⟨join_below HLAT.out ST.out⟩
   clear hv hg
   refine hK _ _ ⟨⟨_, HV1.out⟩, rfl⟩ ?_
   clear hK K ST
   iterate 2 ((first | refine takeR (i := 5) (by decide +kernel) (by rfl) ?_ ?_ ?_ | refine takeR (i := 6) (by decide +kernel) (by rfl) ?_ ?_ ?_); (focus exact fun _ _ _ _ h => h); (focus exact ⟨⟨_, HV1.out⟩, rfl⟩); intro K hK; go_simp; (with_reducible refine hK _ ?_); clear hK K)
   refine hall2 (i := 0) (j := 13) (by kernel_rfl) (by rfl) (by rfl) (fun K hK => ?_) (fun K hK => ?_)
   · go_simp
     refine (one_any 97 _).mono ?_
     rintro e v2 ⟨a0, c0, E0, e0, X0, rfl, f1, f2, fX, f3, f4, f5, hb⟩
     have G0 := Aside0.mk f5
     have GW : Aside0 (W.heap.size < a0) := ⟨by have h1 := HW3.out; have h2 := HV1.out.size; omega⟩
     have ST := Aside0.mk hb
     have HV2 : Aside0 (Below w3.heap.size w3 v2) := ⟨join_below HV1.out hb⟩
     have F0 := Aside0.mk (And.intro f2 (And.intro fX (And.intro f3 f1)))
     clear f1 f2 f3 f4 f5 fX hb
     have F4 := Aside0.mk (blk_below F4.out ST.out)
     refine hK _ _ ⟨⟨_, HV2.out⟩, rfl⟩ ?_
     clear hK K ST
     (refine takeR (i := 1) (by kernel_rfl) (by rfl) ?_ ?_ ?_; (focus exact fun _ _ _ _ h => h); (focus exact ⟨⟨_, HV2.out⟩, rfl⟩); intro K hK; go_simp; (with_reducible refine hK _ ?_); clear hK K)
     refine hall2 (i := 11) (j := 13) (by kernel_rfl) (by rfl) (by rfl) (fun K hK => ?_) (fun K hK => ?_)
     · go_simp
       obtain ⟨v3, hv⟩ : ∃ x, v2.alloc (Obj.cells #[.string ⟨#[97]⟩, .int .i64 0, .int .i64 1, .int .i64 2, .slice (some ⟨a0, 0, none⟩) 1 c0, .slice E0 0 e0, .string ⟨#[98]⟩, .int .i64 0, .int .i64 2, .int .i64 2, .slice (some ⟨g4, 0, none⟩) 2 2, .slice none 0 0, .string ⟨#[111]⟩, .int .i64 1, .int .i64 3, .int .i64 2, .slice (some ⟨a1, 0, none⟩) 1 c1, .slice A2 0 c2, .string ⟨#[99]⟩, .int .i64 2, .int .i64 4, .int .i64 2, .slice (some ⟨b1, 0, none⟩) 1 d1, .slice B2 0 d2] 40) = x := ⟨_, rfl⟩
       rw [hv]
       obtain ⟨gR, hg⟩ : ∃ x, v2.heap.size = x := ⟨_, rfl⟩
       rw [hg]
       have F11 : Aside0 (v3.heap[gR]? = some (.cells #[.string ⟨#[97]⟩, .int .i64 0, .int .i64 1, .int .i64 2, .slice (some ⟨a0, 0, none⟩) 1 c0, .slice E0 0 e0, .string ⟨#[98]⟩, .int .i64 0, .int .i64 2, .int .i64 2, .slice (some ⟨g4, 0, none⟩) 2 2, .slice none 0 0, .string ⟨#[111]⟩, .int .i64 1, .int .i64 3, .int .i64 2, .slice (some ⟨a1, 0, none⟩) 1 c1, .slice A2 0 c2, .string ⟨#[99]⟩, .int .i64 2, .int .i64 4, .int .i64 2, .slice (some ⟨b1, 0, none⟩) 1 d1, .slice B2 0 d2] 40 (0, 0))) := ⟨by rw [← hv, ← hg]; exact blk_new _ _⟩
       have GW11 : Aside0 (W.heap.size < gR) := ⟨by have h1 := HW3.out; have h2 := HV2.out.size; omega⟩
       have ST : Aside0 (Below v2.heap.size v2 v3) := ⟨hv ▸ below1 _ _⟩
       have HV3 : Aside0 (Below w3.heap.size w3 v3) := ⟨join_below HV2.out ST.out⟩
       clear hv hg
       have F4 := Aside0.mk (blk_below F4.out ST.out)
       have G0 := Aside0.mk (Nat.lt_of_lt_of_le G0.out ST.out.size)
       have F0 := Aside0.mk (And.intro (Kd.F_below F0.out.1 ST.out) (And.intro (blk_below F0.out.2.1 ST.out) F0.out.2.2))
       refine hK _ _ ⟨⟨_, HV3.out⟩, rfl⟩ ?_
       clear hK K ST
       (refine takeR (i := 12) (by kernel_rfl) (by rfl) ?_ ?_ ?_; (focus exact fun _ _ _ _ h => h); (focus exact ⟨⟨_, HV3.out⟩, rfl⟩); intro K hK; go_simp; (with_reducible refine hK _ ?_); clear hK K)
       refine hall1 (i := 13) (by kernel_rfl) (by rfl) (fun K hK => ?_)
       go_simp
       obtain ⟨v4, hv⟩ : ∃ x, v3.alloc (Obj.cells #[.slice none 0 0, .slice none 0 0] 25) = x := ⟨_, rfl⟩
       rw [hv]
       obtain ⟨g13, hg⟩ : ∃ x, v3.heap.size = x := ⟨_, rfl⟩
       rw [hg]
       have F13 : Aside0 (v4.heap[g13]? = some (.cells #[.slice none 0 0, .slice none 0 0] 25 (0, 0))) := ⟨by rw [← hv, ← hg]; exact blk_new _ _⟩
       have GW13 : Aside0 (W.heap.size < g13) := ⟨by have h1 := HW3.out; have h2 := HV3.out.size; omega⟩
       have ST : Aside0 (Below v3.heap.size v3 v4) := ⟨hv ▸ below1 _ _⟩
       have HV4 : Aside0 (Below w3.heap.size w3 v4) := ⟨join_below HV3.out ST.out⟩
       have FN : Aside0 (a0 ≠ g13) := ⟨by have := G0.out; omega⟩
       have HGE : Aside0 (w3.heap.size ≤ g13) := ⟨hg ▸ HV3.out.size⟩
       clear hv hg
       have F4 := Aside0.mk (blk_below F4.out ST.out)
       have G0 := Aside0.mk (Nat.lt_of_lt_of_le G0.out ST.out.size)
       have F0 := Aside0.mk (And.intro (Kd.F_below F0.out.1 ST.out) (And.intro (blk_below F0.out.2.1 ST.out) F0.out.2.2))
       have F11 := Aside0.mk (blk_below F11.out ST.out)
       refine hK _ _ ⟨⟨_, HV4.out⟩, rfl⟩ ?_
       clear hK K ST
       have ne4 : g4 ≠ g13 := fun e => by have h := F4.out; rw [e, F13.out] at h; simp at h
       have neR : gR ≠ g13 := fun e => by have h := F11.out; rw [e, F13.out] at h; simp at h
       have y0 : World.cell? v4 ⟨g13, 0, none⟩ = some (.slice none 0 0) := (blk_cell F13.out 0).trans rfl
       have y1 : World.cell? v4 ⟨g13, 1, none⟩ = some (.slice none 0 0) := (blk_cell F13.out 1).trans rfl
       have z0 := blk_frozen F13.out 0
       have z1 := blk_frozen F13.out 1
       have hp1 := blk_put F13.out 0 (.slice (some ⟨gR, 0, none⟩) 4 4) rfl
       have y2 : (World.setCell v4 ⟨g13, 0, none⟩ (.slice (some ⟨gR, 0, none⟩) 4 4)).cell? ⟨g13, 1, none⟩ = some (.slice none 0 0) := (blk_cell hp1 1).trans rfl
       have z2 := blk_frozen hp1 1
       have hp2 := blk_put hp1 1 (.slice none 0 0) rfl
       obtain ⟨uf, huf⟩ : ∃ x, (World.setCell v4 ⟨g13, 0, none⟩ (.slice (some ⟨gR, 0, none⟩) 4 4)).setCell ⟨g13, 1, none⟩ (.slice none 0 0) = x := ⟨_, rfl⟩
       have HBF : Aside0 (Below w3.heap.size w3 uf) := ⟨huf ▸ (HV4.out.setCell HGE.out _).setCell HGE.out _⟩
       have f11 := blk_far (p := ⟨g13, 1, none⟩) (blk_far (p := ⟨g13, 0, none⟩) F11.out neR (.slice (some ⟨gR, 0, none⟩) 4 4)) neR (.slice none 0 0)
       have f4 := blk_far (p := ⟨g13, 1, none⟩) (blk_far (p := ⟨g13, 0, none⟩) F4.out ne4 (.slice (some ⟨gR, 0, none⟩) 4 4)) ne4 (.slice none 0 0)
       have f0 := Kd.F_far (p := ⟨g13, 1, none⟩) (Kd.F_far (p := ⟨g13, 0, none⟩) F0.out.1 (fun k hk => by rw [hk]; exact FN.out) (.slice (some ⟨gR, 0, none⟩) 4 4)) (fun k hk => by rw [hk]; exact FN.out) (.slice none 0 0)
       have fx := blk_far (p := ⟨g13, 1, none⟩) (blk_far (p := ⟨g13, 0, none⟩) F0.out.2.1 FN.out (.slice (some ⟨gR, 0, none⟩) 4 4)) FN.out (.slice none 0 0)
       rw [huf] at hp2 f11 f4 f0 fx
       have HF := Aside0.mk hp2
       have HX := Aside0.mk (And.intro f11 (And.intro f4 (And.intro f0 (And.intro fx F0.out.2.2))))
       clear hp2 f11 f4 f0 fx ne4 neR hp1
       refine hall1 (i := 14) (by kernel_rfl) (by rfl) (fun K hK => ?_)
       go_simp
       clear huf y0 y1 y2 z0 z1 z2 F0 F4 F11 F13
       refine hK _ _ ⟨⟨_, HBF.out⟩, rfl⟩ ?_
       clear hK K
       refine wpAnyH_done (by kernel_rfl) ?_ _
       go_wp2
       obtain ⟨wl, hwl⟩ : ∃ x, (uf.alloc (Obj.cells #[.string ⟨#[111]⟩] 9)).alloc (Obj.cells #[.string ⟨#[99]⟩] 9) = x := ⟨_, rfl⟩
       rw [hwl]
       have ST : Aside0 (Below uf.heap.size uf wl) := ⟨hwl ▸ below_alloc (below1 _ _) _⟩
       clear hwl
       go_loopw [8] (fun i w' => i = .int .i64 0 ∧ w' = wl) (fun _ _ => 0)
       case atStart => exact ⟨rfl, rfl⟩
       case round =>
        obtain ⟨rfl, hwr⟩ := hrel
        rw [hwr]
        clear hwr
        have hg := blk_below HF.out ST.out
        have y0 : wl.cell? ⟨g13, 0, none⟩ = some (.slice (some ⟨gR, 0, none⟩) 4 4) := (blk_cell hg 0).trans rfl
        have y1 : wl.cell? ⟨g13, 1, none⟩ = some (.slice none 0 0) := (blk_cell hg 1).trans rfl
        have hw := blk_below (blk_below (blk_below (blk_below HBLK.out HB12.out) HB3.out) HBF.out) ST.out
        have x0 : wl.cell? ⟨W.heap.size, 0, none⟩ = some (.slice none 0 0) := (blk_cell hw 0).trans rfl
        have x1 : wl.cell? ⟨W.heap.size, 1, none⟩ = some (.slice none 0 0) := (blk_cell hw 1).trans rfl
        have z0 := blk_frozen hw 0
        have z1 := blk_frozen hw 1
        have hp1 := blk_put hw 0 (.slice (some ⟨gR, 0, none⟩) 4 4) rfl
        have x2 : (wl.setCell ⟨W.heap.size, 0, none⟩ (.slice (some ⟨gR, 0, none⟩) 4 4)).cell? ⟨W.heap.size, 1, none⟩ = some (.slice none 0 0) := (blk_cell hp1 1).trans rfl
        have z2 := blk_frozen hp1 1
        have HP2 := Aside0.mk (blk_put hp1 1 (.slice none 0 0) rfl)
        clear hg hw hp1
        go_wp2
        refine bodyPost_ret (results_cell_row rfl _ _ W.heap.size 25 #[.slice (some ⟨gR, 0, none⟩) 4 4, .slice none 0 0] (0, 0) _ rfl HP2.out Tryz.underlying25 rfl (by kernel_rfl)) rfl ?_
        have hx := HX.out
        have WN : ∀ g : Nat, W.heap.size < g → g ≠ W.heap.size := fun g h => by omega
        have k1 := blk_far (p := ⟨W.heap.size, 1, none⟩) (blk_far (p := ⟨W.heap.size, 0, none⟩) (blk_below hx.1 ST.out) (WN _ GW11.out) (.slice (some ⟨gR, 0, none⟩) 4 4)) (WN _ GW11.out) (.slice none 0 0)
        have k2 := blk_far (p := ⟨W.heap.size, 1, none⟩) (blk_far (p := ⟨W.heap.size, 0, none⟩) (blk_below hx.2.1 ST.out) (WN _ GW4.out) (.slice (some ⟨gR, 0, none⟩) 4 4)) (WN _ GW4.out) (.slice none 0 0)
        have k3 := f_put (m := 4) (c := 4) GW.out ⟨gR, 0, none⟩ (Kd.F_below hx.2.2.1 ST.out)
        have c3 := blk_far (p := ⟨W.heap.size, 1, none⟩) (blk_far (p := ⟨W.heap.size, 0, none⟩) (blk_below hx.2.2.2.1 ST.out) (WN _ GW.out) (.slice (some ⟨gR, 0, none⟩) 4 4)) (WN _ GW.out) (.slice none 0 0)
        have BB := join_below HB3.out (join_below HBF.out ST.out)
        have k4 := f_put (m := 4) (c := 4) N1.out ⟨gR, 0, none⟩ (Kd.F_below (Kd.F_below H1.out.2.1 HB12.out) BB)
        have c4 := blk_far (p := ⟨W.heap.size, 1, none⟩) (blk_far (p := ⟨W.heap.size, 0, none⟩) (blk_below (blk_below H1.out.2.2.1 HB12.out) BB) (WN _ N1.out) (.slice (some ⟨gR, 0, none⟩) 4 4)) (WN _ N1.out) (.slice none 0 0)
        have k5 := f_put (m := 4) (c := 4) N2.out ⟨gR, 0, none⟩ (Kd.F_below H2.out.2.1 BB)
        have c5 := blk_far (p := ⟨W.heap.size, 1, none⟩) (blk_far (p := ⟨W.heap.size, 0, none⟩) (blk_below H2.out.2.2.1 BB) (WN _ N2.out) (.slice (some ⟨gR, 0, none⟩) 4 4)) (WN _ N2.out) (.slice none 0 0)
        exact ⟨_, rfl, made_row k1 (range_new k2) hx.2.2.2.2.2 k3 (fun _ => re_none hx.2.2.2.2.1) H1.out.1 k4 (fun _ => re_none H1.out.2.2.2) H2.out.1 k5 (fun _ => re_none H2.out.2.2.2) (Nat.le_of_lt GW11.out) ⟨Nat.le_of_lt GW.out, ne_type c3 k1 (by decide)⟩ ⟨Nat.le_of_lt N1.out, ne_type c4 k1 (by decide)⟩ ⟨Nat.le_of_lt N2.out, ne_type c5 k1 (by decide)⟩ ⟨Nat.le_of_lt GW4.out, ne_type k2 k1 (by decide)⟩, ((join_below HB2.out (join_below HB3.out (join_below HBF.out ST.out))).setCell (Nat.le_refl _) _).setCell (Nat.le_refl _) _⟩
     · go_simp
       obtain ⟨v3, hv⟩ : ∃ x, v2.alloc (Obj.cells #[.slice none 0 0, .slice none 0 0] 25) = x := ⟨_, rfl⟩
       rw [hv]
       obtain ⟨g13, hg⟩ : ∃ x, v2.heap.size = x := ⟨_, rfl⟩
       rw [hg]
       have F13 : Aside0 (v3.heap[g13]? = some (.cells #[.slice none 0 0, .slice none 0 0] 25 (0, 0))) := ⟨by rw [← hv, ← hg]; exact blk_new _ _⟩
       have GW13 : Aside0 (W.heap.size < g13) := ⟨by have h1 := HW3.out; have h2 := HV2.out.size; omega⟩
       have ST : Aside0 (Below v2.heap.size v2 v3) := ⟨hv ▸ below1 _ _⟩
       have HV3 : Aside0 (Below w3.heap.size w3 v3) := ⟨join_below HV2.out ST.out⟩
       have FN : Aside0 (a0 ≠ g13) := ⟨by have := G0.out; omega⟩
       have HGE : Aside0 (w3.heap.size ≤ g13) := ⟨hg ▸ HV2.out.size⟩
       clear hv hg
       have F4 := Aside0.mk (blk_below F4.out ST.out)
       have G0 := Aside0.mk (Nat.lt_of_lt_of_le G0.out ST.out.size)
       have F0 := Aside0.mk (And.intro (Kd.F_below F0.out.1 ST.out) (And.intro (blk_below F0.out.2.1 ST.out) F0.out.2.2))
       refine hK _ _ ⟨⟨_, HV3.out⟩, rfl⟩ ?_
       clear hK K ST
       refine hall1 (i := 11) (by kernel_rfl) (by rfl) (fun K hK => ?_)
       go_simp
       obtain ⟨v4, hv⟩ : ∃ x, v3.alloc (Obj.cells #[.string ⟨#[97]⟩, .int .i64 0, .int .i64 1, .int .i64 2, .slice (some ⟨a0, 0, none⟩) 1 c0, .slice E0 0 e0, .string ⟨#[98]⟩, .int .i64 0, .int .i64 2, .int .i64 2, .slice (some ⟨g4, 0, none⟩) 2 2, .slice none 0 0, .string ⟨#[111]⟩, .int .i64 1, .int .i64 3, .int .i64 2, .slice (some ⟨a1, 0, none⟩) 1 c1, .slice A2 0 c2, .string ⟨#[99]⟩, .int .i64 2, .int .i64 4, .int .i64 2, .slice (some ⟨b1, 0, none⟩) 1 d1, .slice B2 0 d2] 40) = x := ⟨_, rfl⟩
       rw [hv]
       obtain ⟨gR, hg⟩ : ∃ x, v3.heap.size = x := ⟨_, rfl⟩
       rw [hg]
       have F11 : Aside0 (v4.heap[gR]? = some (.cells #[.string ⟨#[97]⟩, .int .i64 0, .int .i64 1, .int .i64 2, .slice (some ⟨a0, 0, none⟩) 1 c0, .slice E0 0 e0, .string ⟨#[98]⟩, .int .i64 0, .int .i64 2, .int .i64 2, .slice (some ⟨g4, 0, none⟩) 2 2, .slice none 0 0, .string ⟨#[111]⟩, .int .i64 1, .int .i64 3, .int .i64 2, .slice (some ⟨a1, 0, none⟩) 1 c1, .slice A2 0 c2, .string ⟨#[99]⟩, .int .i64 2, .int .i64 4, .int .i64 2, .slice (some ⟨b1, 0, none⟩) 1 d1, .slice B2 0 d2] 40 (0, 0))) := ⟨by rw [← hv, ← hg]; exact blk_new _ _⟩
       have GW11 : Aside0 (W.heap.size < gR) := ⟨by have h1 := HW3.out; have h2 := HV3.out.size; omega⟩
       have ST : Aside0 (Below v3.heap.size v3 v4) := ⟨hv ▸ below1 _ _⟩
       have HV4 : Aside0 (Below w3.heap.size w3 v4) := ⟨join_below HV3.out ST.out⟩
       clear hv hg
       have F4 := Aside0.mk (blk_below F4.out ST.out)
       have G0 := Aside0.mk (Nat.lt_of_lt_of_le G0.out ST.out.size)
       have F0 := Aside0.mk (And.intro (Kd.F_below F0.out.1 ST.out) (And.intro (blk_below F0.out.2.1 ST.out) F0.out.2.2))
       have F13 := Aside0.mk (blk_below F13.out ST.out)
       refine hK _ _ ⟨⟨_, HV4.out⟩, rfl⟩ ?_
       clear hK K ST
       (refine takeR (i := 12) (by kernel_rfl) (by rfl) ?_ ?_ ?_; (focus exact fun _ _ _ _ h => h); (focus exact ⟨⟨_, HV4.out⟩, rfl⟩); intro K hK; go_simp; (with_reducible refine hK _ ?_); clear hK K)
       have ne4 : g4 ≠ g13 := fun e => by have h := F4.out; rw [e, F13.out] at h; simp at h
       have neR : gR ≠ g13 := fun e => by have h := F11.out; rw [e, F13.out] at h; simp at h
       have y0 : World.cell? v4 ⟨g13, 0, none⟩ = some (.slice none 0 0) := (blk_cell F13.out 0).trans rfl
       have y1 : World.cell? v4 ⟨g13, 1, none⟩ = some (.slice none 0 0) := (blk_cell F13.out 1).trans rfl
       have z0 := blk_frozen F13.out 0
       have z1 := blk_frozen F13.out 1
       have hp1 := blk_put F13.out 0 (.slice (some ⟨gR, 0, none⟩) 4 4) rfl
       have y2 : (World.setCell v4 ⟨g13, 0, none⟩ (.slice (some ⟨gR, 0, none⟩) 4 4)).cell? ⟨g13, 1, none⟩ = some (.slice none 0 0) := (blk_cell hp1 1).trans rfl
       have z2 := blk_frozen hp1 1
       have hp2 := blk_put hp1 1 (.slice none 0 0) rfl
       obtain ⟨uf, huf⟩ : ∃ x, (World.setCell v4 ⟨g13, 0, none⟩ (.slice (some ⟨gR, 0, none⟩) 4 4)).setCell ⟨g13, 1, none⟩ (.slice none 0 0) = x := ⟨_, rfl⟩
       have HBF : Aside0 (Below w3.heap.size w3 uf) := ⟨huf ▸ (HV4.out.setCell HGE.out _).setCell HGE.out _⟩
       have f11 := blk_far (p := ⟨g13, 1, none⟩) (blk_far (p := ⟨g13, 0, none⟩) F11.out neR (.slice (some ⟨gR, 0, none⟩) 4 4)) neR (.slice none 0 0)
       have f4 := blk_far (p := ⟨g13, 1, none⟩) (blk_far (p := ⟨g13, 0, none⟩) F4.out ne4 (.slice (some ⟨gR, 0, none⟩) 4 4)) ne4 (.slice none 0 0)
       have f0 := Kd.F_far (p := ⟨g13, 1, none⟩) (Kd.F_far (p := ⟨g13, 0, none⟩) F0.out.1 (fun k hk => by rw [hk]; exact FN.out) (.slice (some ⟨gR, 0, none⟩) 4 4)) (fun k hk => by rw [hk]; exact FN.out) (.slice none 0 0)
       have fx := blk_far (p := ⟨g13, 1, none⟩) (blk_far (p := ⟨g13, 0, none⟩) F0.out.2.1 FN.out (.slice (some ⟨gR, 0, none⟩) 4 4)) FN.out (.slice none 0 0)
       rw [huf] at hp2 f11 f4 f0 fx
       have HF := Aside0.mk hp2
       have HX := Aside0.mk (And.intro f11 (And.intro f4 (And.intro f0 (And.intro fx F0.out.2.2))))
       clear hp2 f11 f4 f0 fx ne4 neR hp1
       refine hall1 (i := 14) (by kernel_rfl) (by rfl) (fun K hK => ?_)
       go_simp
       clear huf y0 y1 y2 z0 z1 z2 F0 F4 F11 F13
       refine hK _ _ ⟨⟨_, HBF.out⟩, rfl⟩ ?_
       clear hK K
       refine wpAnyH_done (by kernel_rfl) ?_ _
       go_wp2
       obtain ⟨wl, hwl⟩ : ∃ x, (uf.alloc (Obj.cells #[.string ⟨#[111]⟩] 9)).alloc (Obj.cells #[.string ⟨#[99]⟩] 9) = x := ⟨_, rfl⟩
       rw [hwl]
       have ST : Aside0 (Below uf.heap.size uf wl) := ⟨hwl ▸ below_alloc (below1 _ _) _⟩
       clear hwl
       go_loopw [8] (fun i w' => i = .int .i64 0 ∧ w' = wl) (fun _ _ => 0)
       case atStart => exact ⟨rfl, rfl⟩
       case round =>
        obtain ⟨rfl, hwr⟩ := hrel
        rw [hwr]
        clear hwr
        have hg := blk_below HF.out ST.out
        have y0 : wl.cell? ⟨g13, 0, none⟩ = some (.slice (some ⟨gR, 0, none⟩) 4 4) := (blk_cell hg 0).trans rfl
        have y1 : wl.cell? ⟨g13, 1, none⟩ = some (.slice none 0 0) := (blk_cell hg 1).trans rfl
        have hw := blk_below (blk_below (blk_below (blk_below HBLK.out HB12.out) HB3.out) HBF.out) ST.out
        have x0 : wl.cell? ⟨W.heap.size, 0, none⟩ = some (.slice none 0 0) := (blk_cell hw 0).trans rfl
        have x1 : wl.cell? ⟨W.heap.size, 1, none⟩ = some (.slice none 0 0) := (blk_cell hw 1).trans rfl
        have z0 := blk_frozen hw 0
        have z1 := blk_frozen hw 1
        have hp1 := blk_put hw 0 (.slice (some ⟨gR, 0, none⟩) 4 4) rfl
        have x2 : (wl.setCell ⟨W.heap.size, 0, none⟩ (.slice (some ⟨gR, 0, none⟩) 4 4)).cell? ⟨W.heap.size, 1, none⟩ = some (.slice none 0 0) := (blk_cell hp1 1).trans rfl
        have z2 := blk_frozen hp1 1
        have HP2 := Aside0.mk (blk_put hp1 1 (.slice none 0 0) rfl)
        clear hg hw hp1
        go_wp2
        refine bodyPost_ret (results_cell_row rfl _ _ W.heap.size 25 #[.slice (some ⟨gR, 0, none⟩) 4 4, .slice none 0 0] (0, 0) _ rfl HP2.out Tryz.underlying25 rfl (by kernel_rfl)) rfl ?_
        have hx := HX.out
        have WN : ∀ g : Nat, W.heap.size < g → g ≠ W.heap.size := fun g h => by omega
        have k1 := blk_far (p := ⟨W.heap.size, 1, none⟩) (blk_far (p := ⟨W.heap.size, 0, none⟩) (blk_below hx.1 ST.out) (WN _ GW11.out) (.slice (some ⟨gR, 0, none⟩) 4 4)) (WN _ GW11.out) (.slice none 0 0)
        have k2 := blk_far (p := ⟨W.heap.size, 1, none⟩) (blk_far (p := ⟨W.heap.size, 0, none⟩) (blk_below hx.2.1 ST.out) (WN _ GW4.out) (.slice (some ⟨gR, 0, none⟩) 4 4)) (WN _ GW4.out) (.slice none 0 0)
        have k3 := f_put (m := 4) (c := 4) GW.out ⟨gR, 0, none⟩ (Kd.F_below hx.2.2.1 ST.out)
        have c3 := blk_far (p := ⟨W.heap.size, 1, none⟩) (blk_far (p := ⟨W.heap.size, 0, none⟩) (blk_below hx.2.2.2.1 ST.out) (WN _ GW.out) (.slice (some ⟨gR, 0, none⟩) 4 4)) (WN _ GW.out) (.slice none 0 0)
        have BB := join_below HB3.out (join_below HBF.out ST.out)
        have k4 := f_put (m := 4) (c := 4) N1.out ⟨gR, 0, none⟩ (Kd.F_below (Kd.F_below H1.out.2.1 HB12.out) BB)
        have c4 := blk_far (p := ⟨W.heap.size, 1, none⟩) (blk_far (p := ⟨W.heap.size, 0, none⟩) (blk_below (blk_below H1.out.2.2.1 HB12.out) BB) (WN _ N1.out) (.slice (some ⟨gR, 0, none⟩) 4 4)) (WN _ N1.out) (.slice none 0 0)
        have k5 := f_put (m := 4) (c := 4) N2.out ⟨gR, 0, none⟩ (Kd.F_below H2.out.2.1 BB)
        have c5 := blk_far (p := ⟨W.heap.size, 1, none⟩) (blk_far (p := ⟨W.heap.size, 0, none⟩) (blk_below H2.out.2.2.1 BB) (WN _ N2.out) (.slice (some ⟨gR, 0, none⟩) 4 4)) (WN _ N2.out) (.slice none 0 0)
        exact ⟨_, rfl, made_row k1 (range_new k2) hx.2.2.2.2.2 k3 (fun _ => re_none hx.2.2.2.2.1) H1.out.1 k4 (fun _ => re_none H1.out.2.2.2) H2.out.1 k5 (fun _ => re_none H2.out.2.2.2) (Nat.le_of_lt GW11.out) ⟨Nat.le_of_lt GW.out, ne_type c3 k1 (by decide)⟩ ⟨Nat.le_of_lt N1.out, ne_type c4 k1 (by decide)⟩ ⟨Nat.le_of_lt N2.out, ne_type c5 k1 (by decide)⟩ ⟨Nat.le_of_lt GW4.out, ne_type k2 k1 (by decide)⟩, ((join_below HB2.out (join_below HB3.out (join_below HBF.out ST.out))).setCell (Nat.le_refl _) _).setCell (Nat.le_refl _) _⟩
   · go_simp
     obtain ⟨v2, hv⟩ : ∃ x, v1.alloc (Obj.cells #[.slice none 0 0, .slice none 0 0] 25) = x := ⟨_, rfl⟩
     rw [hv]
     obtain ⟨g13, hg⟩ : ∃ x, v1.heap.size = x := ⟨_, rfl⟩
     rw [hg]
     have F13 : Aside0 (v2.heap[g13]? = some (.cells #[.slice none 0 0, .slice none 0 0] 25 (0, 0))) := ⟨by rw [← hv, ← hg]; exact blk_new _ _⟩
     have GW13 : Aside0 (W.heap.size < g13) := ⟨by have h1 := HW3.out; have h2 := HV1.out.size; omega⟩
     have ST : Aside0 (Below v1.heap.size v1 v2) := ⟨hv ▸ below1 _ _⟩
     have HV2 : Aside0 (Below w3.heap.size w3 v2) := ⟨join_below HV1.out ST.out⟩
     have HGE : Aside0 (w3.heap.size ≤ g13) := ⟨hg ▸ HV1.out.size⟩
     clear hv hg
     have F4 := Aside0.mk (blk_below F4.out ST.out)
     refine hK _ _ ⟨⟨_, HV2.out⟩, rfl⟩ ?_
     clear hK K ST
     refine hall1 (i := 0) (by kernel_rfl) (by rfl) (fun K hK => ?_)
     go_simp
     refine (one_any 97 _).mono ?_
     rintro e v3 ⟨a0, c0, E0, e0, X0, rfl, f1, f2, fX, f3, f4, f5, hb⟩
     have FN : Aside0 (a0 ≠ g13) := ⟨by have := blk_lt F13.out; omega⟩
     have G0 := Aside0.mk f5
     have GW : Aside0 (W.heap.size < a0) := ⟨by have h1 := HW3.out; have h2 := HV2.out.size; omega⟩
     have ST := Aside0.mk hb
     have HV3 : Aside0 (Below w3.heap.size w3 v3) := ⟨join_below HV2.out hb⟩
     have F0 := Aside0.mk (And.intro f2 (And.intro fX (And.intro f3 f1)))
     clear f1 f2 f3 f4 f5 fX hb
     have F4 := Aside0.mk (blk_below F4.out ST.out)
     have F13 := Aside0.mk (blk_below F13.out ST.out)
     refine hK _ _ ⟨⟨_, HV3.out⟩, rfl⟩ ?_
     clear hK K ST
     (refine takeR (i := 1) (by kernel_rfl) (by rfl) ?_ ?_ ?_; (focus exact fun _ _ _ _ h => h); (focus exact ⟨⟨_, HV3.out⟩, rfl⟩); intro K hK; go_simp; (with_reducible refine hK _ ?_); clear hK K)
     refine hall1 (i := 11) (by kernel_rfl) (by rfl) (fun K hK => ?_)
     go_simp
     obtain ⟨v4, hv⟩ : ∃ x, v3.alloc (Obj.cells #[.string ⟨#[97]⟩, .int .i64 0, .int .i64 1, .int .i64 2, .slice (some ⟨a0, 0, none⟩) 1 c0, .slice E0 0 e0, .string ⟨#[98]⟩, .int .i64 0, .int .i64 2, .int .i64 2, .slice (some ⟨g4, 0, none⟩) 2 2, .slice none 0 0, .string ⟨#[111]⟩, .int .i64 1, .int .i64 3, .int .i64 2, .slice (some ⟨a1, 0, none⟩) 1 c1, .slice A2 0 c2, .string ⟨#[99]⟩, .int .i64 2, .int .i64 4, .int .i64 2, .slice (some ⟨b1, 0, none⟩) 1 d1, .slice B2 0 d2] 40) = x := ⟨_, rfl⟩
     rw [hv]
     obtain ⟨gR, hg⟩ : ∃ x, v3.heap.size = x := ⟨_, rfl⟩
     rw [hg]
     have F11 : Aside0 (v4.heap[gR]? = some (.cells #[.string ⟨#[97]⟩, .int .i64 0, .int .i64 1, .int .i64 2, .slice (some ⟨a0, 0, none⟩) 1 c0, .slice E0 0 e0, .string ⟨#[98]⟩, .int .i64 0, .int .i64 2, .int .i64 2, .slice (some ⟨g4, 0, none⟩) 2 2, .slice none 0 0, .string ⟨#[111]⟩, .int .i64 1, .int .i64 3, .int .i64 2, .slice (some ⟨a1, 0, none⟩) 1 c1, .slice A2 0 c2, .string ⟨#[99]⟩, .int .i64 2, .int .i64 4, .int .i64 2, .slice (some ⟨b1, 0, none⟩) 1 d1, .slice B2 0 d2] 40 (0, 0))) := ⟨by rw [← hv, ← hg]; exact blk_new _ _⟩
     have GW11 : Aside0 (W.heap.size < gR) := ⟨by have h1 := HW3.out; have h2 := HV3.out.size; omega⟩
     have ST : Aside0 (Below v3.heap.size v3 v4) := ⟨hv ▸ below1 _ _⟩
     have HV4 : Aside0 (Below w3.heap.size w3 v4) := ⟨join_below HV3.out ST.out⟩
     clear hv hg
     have F4 := Aside0.mk (blk_below F4.out ST.out)
     have F13 := Aside0.mk (blk_below F13.out ST.out)
     have G0 := Aside0.mk (Nat.lt_of_lt_of_le G0.out ST.out.size)
     have F0 := Aside0.mk (And.intro (Kd.F_below F0.out.1 ST.out) (And.intro (blk_below F0.out.2.1 ST.out) F0.out.2.2))
     refine hK _ _ ⟨⟨_, HV4.out⟩, rfl⟩ ?_
     clear hK K ST
     (refine takeR (i := 12) (by kernel_rfl) (by rfl) ?_ ?_ ?_; (focus exact fun _ _ _ _ h => h); (focus exact ⟨⟨_, HV4.out⟩, rfl⟩); intro K hK; go_simp; (with_reducible refine hK _ ?_); clear hK K)
     have ne4 : g4 ≠ g13 := fun e => by have h := F4.out; rw [e, F13.out] at h; simp at h
     have neR : gR ≠ g13 := fun e => by have h := F11.out; rw [e, F13.out] at h; simp at h
     have y0 : World.cell? v4 ⟨g13, 0, none⟩ = some (.slice none 0 0) := (blk_cell F13.out 0).trans rfl
     have y1 : World.cell? v4 ⟨g13, 1, none⟩ = some (.slice none 0 0) := (blk_cell F13.out 1).trans rfl
     have z0 := blk_frozen F13.out 0
     have z1 := blk_frozen F13.out 1
     have hp1 := blk_put F13.out 0 (.slice (some ⟨gR, 0, none⟩) 4 4) rfl
     have y2 : (World.setCell v4 ⟨g13, 0, none⟩ (.slice (some ⟨gR, 0, none⟩) 4 4)).cell? ⟨g13, 1, none⟩ = some (.slice none 0 0) := (blk_cell hp1 1).trans rfl
     have z2 := blk_frozen hp1 1
     have hp2 := blk_put hp1 1 (.slice none 0 0) rfl
     obtain ⟨uf, huf⟩ : ∃ x, (World.setCell v4 ⟨g13, 0, none⟩ (.slice (some ⟨gR, 0, none⟩) 4 4)).setCell ⟨g13, 1, none⟩ (.slice none 0 0) = x := ⟨_, rfl⟩
     have HBF : Aside0 (Below w3.heap.size w3 uf) := ⟨huf ▸ (HV4.out.setCell HGE.out _).setCell HGE.out _⟩
     have f11 := blk_far (p := ⟨g13, 1, none⟩) (blk_far (p := ⟨g13, 0, none⟩) F11.out neR (.slice (some ⟨gR, 0, none⟩) 4 4)) neR (.slice none 0 0)
     have f4 := blk_far (p := ⟨g13, 1, none⟩) (blk_far (p := ⟨g13, 0, none⟩) F4.out ne4 (.slice (some ⟨gR, 0, none⟩) 4 4)) ne4 (.slice none 0 0)
     have f0 := Kd.F_far (p := ⟨g13, 1, none⟩) (Kd.F_far (p := ⟨g13, 0, none⟩) F0.out.1 (fun k hk => by rw [hk]; exact FN.out) (.slice (some ⟨gR, 0, none⟩) 4 4)) (fun k hk => by rw [hk]; exact FN.out) (.slice none 0 0)
     have fx := blk_far (p := ⟨g13, 1, none⟩) (blk_far (p := ⟨g13, 0, none⟩) F0.out.2.1 FN.out (.slice (some ⟨gR, 0, none⟩) 4 4)) FN.out (.slice none 0 0)
     rw [huf] at hp2 f11 f4 f0 fx
     have HF := Aside0.mk hp2
     have HX := Aside0.mk (And.intro f11 (And.intro f4 (And.intro f0 (And.intro fx F0.out.2.2))))
     clear hp2 f11 f4 f0 fx ne4 neR hp1
     refine hall1 (i := 14) (by kernel_rfl) (by rfl) (fun K hK => ?_)
     go_simp
     clear huf y0 y1 y2 z0 z1 z2 F0 F4 F11 F13
     refine hK _ _ ⟨⟨_, HBF.out⟩, rfl⟩ ?_
     clear hK K
     refine wpAnyH_done (by kernel_rfl) ?_ _
     go_wp2
     obtain ⟨wl, hwl⟩ : ∃ x, (uf.alloc (Obj.cells #[.string ⟨#[111]⟩] 9)).alloc (Obj.cells #[.string ⟨#[99]⟩] 9) = x := ⟨_, rfl⟩
     rw [hwl]
     have ST : Aside0 (Below uf.heap.size uf wl) := ⟨hwl ▸ below_alloc (below1 _ _) _⟩
     clear hwl
     go_loopw [8] (fun i w' => i = .int .i64 0 ∧ w' = wl) (fun _ _ => 0)
     case atStart => exact ⟨rfl, rfl⟩
     case round =>
      obtain ⟨rfl, hwr⟩ := hrel
      rw [hwr]
      clear hwr
      have hg := blk_below HF.out ST.out
      have y0 : wl.cell? ⟨g13, 0, none⟩ = some (.slice (some ⟨gR, 0, none⟩) 4 4) := (blk_cell hg 0).trans rfl
      have y1 : wl.cell? ⟨g13, 1, none⟩ = some (.slice none 0 0) := (blk_cell hg 1).trans rfl
      have hw := blk_below (blk_below (blk_below (blk_below HBLK.out HB12.out) HB3.out) HBF.out) ST.out
      have x0 : wl.cell? ⟨W.heap.size, 0, none⟩ = some (.slice none 0 0) := (blk_cell hw 0).trans rfl
      have x1 : wl.cell? ⟨W.heap.size, 1, none⟩ = some (.slice none 0 0) := (blk_cell hw 1).trans rfl
      have z0 := blk_frozen hw 0
      have z1 := blk_frozen hw 1
      have hp1 := blk_put hw 0 (.slice (some ⟨gR, 0, none⟩) 4 4) rfl
      have x2 : (wl.setCell ⟨W.heap.size, 0, none⟩ (.slice (some ⟨gR, 0, none⟩) 4 4)).cell? ⟨W.heap.size, 1, none⟩ = some (.slice none 0 0) := (blk_cell hp1 1).trans rfl
      have z2 := blk_frozen hp1 1
      have HP2 := Aside0.mk (blk_put hp1 1 (.slice none 0 0) rfl)
      clear hg hw hp1
      go_wp2
      refine bodyPost_ret (results_cell_row rfl _ _ W.heap.size 25 #[.slice (some ⟨gR, 0, none⟩) 4 4, .slice none 0 0] (0, 0) _ rfl HP2.out Tryz.underlying25 rfl (by kernel_rfl)) rfl ?_
      have hx := HX.out
      have WN : ∀ g : Nat, W.heap.size < g → g ≠ W.heap.size := fun g h => by omega
      have k1 := blk_far (p := ⟨W.heap.size, 1, none⟩) (blk_far (p := ⟨W.heap.size, 0, none⟩) (blk_below hx.1 ST.out) (WN _ GW11.out) (.slice (some ⟨gR, 0, none⟩) 4 4)) (WN _ GW11.out) (.slice none 0 0)
      have k2 := blk_far (p := ⟨W.heap.size, 1, none⟩) (blk_far (p := ⟨W.heap.size, 0, none⟩) (blk_below hx.2.1 ST.out) (WN _ GW4.out) (.slice (some ⟨gR, 0, none⟩) 4 4)) (WN _ GW4.out) (.slice none 0 0)
      have k3 := f_put (m := 4) (c := 4) GW.out ⟨gR, 0, none⟩ (Kd.F_below hx.2.2.1 ST.out)
      have c3 := blk_far (p := ⟨W.heap.size, 1, none⟩) (blk_far (p := ⟨W.heap.size, 0, none⟩) (blk_below hx.2.2.2.1 ST.out) (WN _ GW.out) (.slice (some ⟨gR, 0, none⟩) 4 4)) (WN _ GW.out) (.slice none 0 0)
      have BB := join_below HB3.out (join_below HBF.out ST.out)
      have k4 := f_put (m := 4) (c := 4) N1.out ⟨gR, 0, none⟩ (Kd.F_below (Kd.F_below H1.out.2.1 HB12.out) BB)
      have c4 := blk_far (p := ⟨W.heap.size, 1, none⟩) (blk_far (p := ⟨W.heap.size, 0, none⟩) (blk_below (blk_below H1.out.2.2.1 HB12.out) BB) (WN _ N1.out) (.slice (some ⟨gR, 0, none⟩) 4 4)) (WN _ N1.out) (.slice none 0 0)
      have k5 := f_put (m := 4) (c := 4) N2.out ⟨gR, 0, none⟩ (Kd.F_below H2.out.2.1 BB)
      have c5 := blk_far (p := ⟨W.heap.size, 1, none⟩) (blk_far (p := ⟨W.heap.size, 0, none⟩) (blk_below H2.out.2.2.1 BB) (WN _ N2.out) (.slice (some ⟨gR, 0, none⟩) 4 4)) (WN _ N2.out) (.slice none 0 0)
      exact ⟨_, rfl, made_row k1 (range_new k2) hx.2.2.2.2.2 k3 (fun _ => re_none hx.2.2.2.2.1) H1.out.1 k4 (fun _ => re_none H1.out.2.2.2) H2.out.1 k5 (fun _ => re_none H2.out.2.2.2) (Nat.le_of_lt GW11.out) ⟨Nat.le_of_lt GW.out, ne_type c3 k1 (by decide)⟩ ⟨Nat.le_of_lt N1.out, ne_type c4 k1 (by decide)⟩ ⟨Nat.le_of_lt N2.out, ne_type c5 k1 (by decide)⟩ ⟨Nat.le_of_lt GW4.out, ne_type k2 k1 (by decide)⟩, ((join_below HB2.out (join_below HB3.out (join_below HBF.out ST.out))).setCell (Nat.le_refl _) _).setCell (Nat.le_refl _) _⟩
 · go_simp
   obtain ⟨v1, hv⟩ : ∃ x, wd.alloc (Obj.cells #[.slice none 0 0, .slice none 0 0] 25) = x := ⟨_, rfl⟩
   rw [hv]
   obtain ⟨g13, hg⟩ : ∃ x, wd.heap.size = x := ⟨_, rfl⟩
   rw [hg]
   have F13 : Aside0 (v1.heap[g13]? = some (.cells #[.slice none 0 0, .slice none 0 0] 25 (0, 0))) := ⟨by rw [← hv, ← hg]; exact blk_new _ _⟩
   have GW13 : Aside0 (W.heap.size < g13) := ⟨by have h1 := HW3.out; have h2 := HLAT.out.size; omega⟩
   have ST : Aside0 (Below wd.heap.size wd v1) := ⟨hv ▸ below1 _ _⟩
   have HV1 : Aside0 (Below w3.heap.size w3 v1) := ⟨join_below HLAT.out ST.out⟩
   have HGE : Aside0 (w3.heap.size ≤ g13) := ⟨hg ▸ HLAT.out.size⟩
   clear hv hg
   refine hK _ _ ⟨⟨_, HV1.out⟩, rfl⟩ ?_
   clear hK K ST
   refine hall2 (i := 0) (j := 4) (by kernel_rfl) (by rfl) (by rfl) (fun K hK => ?_) (fun K hK => ?_)
   · go_simp
     refine (one_any 97 _).mono ?_
     rintro e v2 ⟨a0, c0, E0, e0, X0, rfl, f1, f2, fX, f3, f4, f5, hb⟩
     have FN : Aside0 (a0 ≠ g13) := ⟨by have := blk_lt F13.out; omega⟩
     have G0 := Aside0.mk f5
     have GW : Aside0 (W.heap.size < a0) := ⟨by have h1 := HW3.out; have h2 := HV1.out.size; omega⟩
     have ST := Aside0.mk hb
     have HV2 : Aside0 (Below w3.heap.size w3 v2) := ⟨join_below HV1.out hb⟩
     have F0 := Aside0.mk (And.intro f2 (And.intro fX (And.intro f3 f1)))
     clear f1 f2 f3 f4 f5 fX hb
     have F13 := Aside0.mk (blk_below F13.out ST.out)
     refine hK _ _ ⟨⟨_, HV2.out⟩, rfl⟩ ?_
     clear hK K ST
     (refine takeR (i := 1) (by kernel_rfl) (by rfl) ?_ ?_ ?_; (focus exact fun _ _ _ _ h => h); (focus exact ⟨⟨_, HV2.out⟩, rfl⟩); intro K hK; go_simp; (with_reducible refine hK _ ?_); clear hK K)
     refine hall1 (i := 4) (by kernel_rfl) (by rfl) (fun K hK => ?_)
     go_simp
     obtain ⟨v3, hv⟩ : ∃ x, v2.alloc (Obj.cells #[.int .i32 10, .int .i32 10, .int .i32 98, .int .i32 98] 80) = x := ⟨_, rfl⟩
     rw [hv]
     obtain ⟨g4, hg⟩ : ∃ x, v2.heap.size = x := ⟨_, rfl⟩
     rw [hg]
     have F4 : Aside0 (v3.heap[g4]? = some (.cells #[.int .i32 10, .int .i32 10, .int .i32 98, .int .i32 98] 80 (0, 0))) := ⟨by rw [← hv, ← hg]; exact blk_new _ _⟩
     have GW4 : Aside0 (W.heap.size < g4) := ⟨by have h1 := HW3.out; have h2 := HV2.out.size; omega⟩
     have ST : Aside0 (Below v2.heap.size v2 v3) := ⟨hv ▸ below1 _ _⟩
     have HV3 : Aside0 (Below w3.heap.size w3 v3) := ⟨join_below HV2.out ST.out⟩
     clear hv hg
     have F13 := Aside0.mk (blk_below F13.out ST.out)
     have G0 := Aside0.mk (Nat.lt_of_lt_of_le G0.out ST.out.size)
     have F0 := Aside0.mk (And.intro (Kd.F_below F0.out.1 ST.out) (And.intro (blk_below F0.out.2.1 ST.out) F0.out.2.2))
     refine hK _ _ ⟨⟨_, HV3.out⟩, rfl⟩ ?_
     clear hK K ST
     iterate 2 ((first | refine takeR (i := 5) (by decide +kernel) (by rfl) ?_ ?_ ?_ | refine takeR (i := 6) (by decide +kernel) (by rfl) ?_ ?_ ?_); (focus exact fun _ _ _ _ h => h); (focus exact ⟨⟨_, HV3.out⟩, rfl⟩); intro K hK; go_simp; (with_reducible refine hK _ ?_); clear hK K)
     refine hall1 (i := 11) (by kernel_rfl) (by rfl) (fun K hK => ?_)
     go_simp
     obtain ⟨v4, hv⟩ : ∃ x, v3.alloc (Obj.cells #[.string ⟨#[97]⟩, .int .i64 0, .int .i64 1, .int .i64 2, .slice (some ⟨a0, 0, none⟩) 1 c0, .slice E0 0 e0, .string ⟨#[98]⟩, .int .i64 0, .int .i64 2, .int .i64 2, .slice (some ⟨g4, 0, none⟩) 2 2, .slice none 0 0, .string ⟨#[111]⟩, .int .i64 1, .int .i64 3, .int .i64 2, .slice (some ⟨a1, 0, none⟩) 1 c1, .slice A2 0 c2, .string ⟨#[99]⟩, .int .i64 2, .int .i64 4, .int .i64 2, .slice (some ⟨b1, 0, none⟩) 1 d1, .slice B2 0 d2] 40) = x := ⟨_, rfl⟩
     rw [hv]
     obtain ⟨gR, hg⟩ : ∃ x, v3.heap.size = x := ⟨_, rfl⟩
     rw [hg]
     have F11 : Aside0 (v4.heap[gR]? = some (.cells #[.string ⟨#[97]⟩, .int .i64 0, .int .i64 1, .int .i64 2, .slice (some ⟨a0, 0, none⟩) 1 c0, .slice E0 0 e0, .string ⟨#[98]⟩, .int .i64 0, .int .i64 2, .int .i64 2, .slice (some ⟨g4, 0, none⟩) 2 2, .slice none 0 0, .string ⟨#[111]⟩, .int .i64 1, .int .i64 3, .int .i64 2, .slice (some ⟨a1, 0, none⟩) 1 c1, .slice A2 0 c2, .string ⟨#[99]⟩, .int .i64 2, .int .i64 4, .int .i64 2, .slice (some ⟨b1, 0, none⟩) 1 d1, .slice B2 0 d2] 40 (0, 0))) := ⟨by rw [← hv, ← hg]; exact blk_new _ _⟩
     have GW11 : Aside0 (W.heap.size < gR) := ⟨by have h1 := HW3.out; have h2 := HV3.out.size; omega⟩
     have ST : Aside0 (Below v3.heap.size v3 v4) := ⟨hv ▸ below1 _ _⟩
     have HV4 : Aside0 (Below w3.heap.size w3 v4) := ⟨join_below HV3.out ST.out⟩
     clear hv hg
     have F13 := Aside0.mk (blk_below F13.out ST.out)
     have G0 := Aside0.mk (Nat.lt_of_lt_of_le G0.out ST.out.size)
     have F0 := Aside0.mk (And.intro (Kd.F_below F0.out.1 ST.out) (And.intro (blk_below F0.out.2.1 ST.out) F0.out.2.2))
     have F4 := Aside0.mk (blk_below F4.out ST.out)
     refine hK _ _ ⟨⟨_, HV4.out⟩, rfl⟩ ?_
     clear hK K ST
     (refine takeR (i := 12) (by kernel_rfl) (by rfl) ?_ ?_ ?_; (focus exact fun _ _ _ _ h => h); (focus exact ⟨⟨_, HV4.out⟩, rfl⟩); intro K hK; go_simp; (with_reducible refine hK _ ?_); clear hK K)
     have ne4 : g4 ≠ g13 := fun e => by have h := F4.out; rw [e, F13.out] at h; simp at h
     have neR : gR ≠ g13 := fun e => by have h := F11.out; rw [e, F13.out] at h; simp at h
     have y0 : World.cell? v4 ⟨g13, 0, none⟩ = some (.slice none 0 0) := (blk_cell F13.out 0).trans rfl
     have y1 : World.cell? v4 ⟨g13, 1, none⟩ = some (.slice none 0 0) := (blk_cell F13.out 1).trans rfl
     have z0 := blk_frozen F13.out 0
     have z1 := blk_frozen F13.out 1
     have hp1 := blk_put F13.out 0 (.slice (some ⟨gR, 0, none⟩) 4 4) rfl
     have y2 : (World.setCell v4 ⟨g13, 0, none⟩ (.slice (some ⟨gR, 0, none⟩) 4 4)).cell? ⟨g13, 1, none⟩ = some (.slice none 0 0) := (blk_cell hp1 1).trans rfl
     have z2 := blk_frozen hp1 1
     have hp2 := blk_put hp1 1 (.slice none 0 0) rfl
     obtain ⟨uf, huf⟩ : ∃ x, (World.setCell v4 ⟨g13, 0, none⟩ (.slice (some ⟨gR, 0, none⟩) 4 4)).setCell ⟨g13, 1, none⟩ (.slice none 0 0) = x := ⟨_, rfl⟩
     have HBF : Aside0 (Below w3.heap.size w3 uf) := ⟨huf ▸ (HV4.out.setCell HGE.out _).setCell HGE.out _⟩
     have f11 := blk_far (p := ⟨g13, 1, none⟩) (blk_far (p := ⟨g13, 0, none⟩) F11.out neR (.slice (some ⟨gR, 0, none⟩) 4 4)) neR (.slice none 0 0)
     have f4 := blk_far (p := ⟨g13, 1, none⟩) (blk_far (p := ⟨g13, 0, none⟩) F4.out ne4 (.slice (some ⟨gR, 0, none⟩) 4 4)) ne4 (.slice none 0 0)
     have f0 := Kd.F_far (p := ⟨g13, 1, none⟩) (Kd.F_far (p := ⟨g13, 0, none⟩) F0.out.1 (fun k hk => by rw [hk]; exact FN.out) (.slice (some ⟨gR, 0, none⟩) 4 4)) (fun k hk => by rw [hk]; exact FN.out) (.slice none 0 0)
     have fx := blk_far (p := ⟨g13, 1, none⟩) (blk_far (p := ⟨g13, 0, none⟩) F0.out.2.1 FN.out (.slice (some ⟨gR, 0, none⟩) 4 4)) FN.out (.slice none 0 0)
     rw [huf] at hp2 f11 f4 f0 fx
     have HF := Aside0.mk hp2
     have HX := Aside0.mk (And.intro f11 (And.intro f4 (And.intro f0 (And.intro fx F0.out.2.2))))
     clear hp2 f11 f4 f0 fx ne4 neR hp1
     refine hall1 (i := 14) (by kernel_rfl) (by rfl) (fun K hK => ?_)
     go_simp
     clear huf y0 y1 y2 z0 z1 z2 F0 F4 F11 F13
     refine hK _ _ ⟨⟨_, HBF.out⟩, rfl⟩ ?_
     clear hK K
     refine wpAnyH_done (by kernel_rfl) ?_ _
     go_wp2
     obtain ⟨wl, hwl⟩ : ∃ x, (uf.alloc (Obj.cells #[.string ⟨#[111]⟩] 9)).alloc (Obj.cells #[.string ⟨#[99]⟩] 9) = x := ⟨_, rfl⟩
     rw [hwl]
     have ST : Aside0 (Below uf.heap.size uf wl) := ⟨hwl ▸ below_alloc (below1 _ _) _⟩
     clear hwl
     go_loopw [8] (fun i w' => i = .int .i64 0 ∧ w' = wl) (fun _ _ => 0)
     case atStart => exact ⟨rfl, rfl⟩
     case round =>
      obtain ⟨rfl, hwr⟩ := hrel
      rw [hwr]
      clear hwr
      have hg := blk_below HF.out ST.out
      have y0 : wl.cell? ⟨g13, 0, none⟩ = some (.slice (some ⟨gR, 0, none⟩) 4 4) := (blk_cell hg 0).trans rfl
      have y1 : wl.cell? ⟨g13, 1, none⟩ = some (.slice none 0 0) := (blk_cell hg 1).trans rfl
      have hw := blk_below (blk_below (blk_below (blk_below HBLK.out HB12.out) HB3.out) HBF.out) ST.out
      have x0 : wl.cell? ⟨W.heap.size, 0, none⟩ = some (.slice none 0 0) := (blk_cell hw 0).trans rfl
      have x1 : wl.cell? ⟨W.heap.size, 1, none⟩ = some (.slice none 0 0) := (blk_cell hw 1).trans rfl
      have z0 := blk_frozen hw 0
      have z1 := blk_frozen hw 1
      have hp1 := blk_put hw 0 (.slice (some ⟨gR, 0, none⟩) 4 4) rfl
      have x2 : (wl.setCell ⟨W.heap.size, 0, none⟩ (.slice (some ⟨gR, 0, none⟩) 4 4)).cell? ⟨W.heap.size, 1, none⟩ = some (.slice none 0 0) := (blk_cell hp1 1).trans rfl
      have z2 := blk_frozen hp1 1
      have HP2 := Aside0.mk (blk_put hp1 1 (.slice none 0 0) rfl)
      clear hg hw hp1
      go_wp2
      refine bodyPost_ret (results_cell_row rfl _ _ W.heap.size 25 #[.slice (some ⟨gR, 0, none⟩) 4 4, .slice none 0 0] (0, 0) _ rfl HP2.out Tryz.underlying25 rfl (by kernel_rfl)) rfl ?_
      have hx := HX.out
      have WN : ∀ g : Nat, W.heap.size < g → g ≠ W.heap.size := fun g h => by omega
      have k1 := blk_far (p := ⟨W.heap.size, 1, none⟩) (blk_far (p := ⟨W.heap.size, 0, none⟩) (blk_below hx.1 ST.out) (WN _ GW11.out) (.slice (some ⟨gR, 0, none⟩) 4 4)) (WN _ GW11.out) (.slice none 0 0)
      have k2 := blk_far (p := ⟨W.heap.size, 1, none⟩) (blk_far (p := ⟨W.heap.size, 0, none⟩) (blk_below hx.2.1 ST.out) (WN _ GW4.out) (.slice (some ⟨gR, 0, none⟩) 4 4)) (WN _ GW4.out) (.slice none 0 0)
      have k3 := f_put (m := 4) (c := 4) GW.out ⟨gR, 0, none⟩ (Kd.F_below hx.2.2.1 ST.out)
      have c3 := blk_far (p := ⟨W.heap.size, 1, none⟩) (blk_far (p := ⟨W.heap.size, 0, none⟩) (blk_below hx.2.2.2.1 ST.out) (WN _ GW.out) (.slice (some ⟨gR, 0, none⟩) 4 4)) (WN _ GW.out) (.slice none 0 0)
      have BB := join_below HB3.out (join_below HBF.out ST.out)
      have k4 := f_put (m := 4) (c := 4) N1.out ⟨gR, 0, none⟩ (Kd.F_below (Kd.F_below H1.out.2.1 HB12.out) BB)
      have c4 := blk_far (p := ⟨W.heap.size, 1, none⟩) (blk_far (p := ⟨W.heap.size, 0, none⟩) (blk_below (blk_below H1.out.2.2.1 HB12.out) BB) (WN _ N1.out) (.slice (some ⟨gR, 0, none⟩) 4 4)) (WN _ N1.out) (.slice none 0 0)
      have k5 := f_put (m := 4) (c := 4) N2.out ⟨gR, 0, none⟩ (Kd.F_below H2.out.2.1 BB)
      have c5 := blk_far (p := ⟨W.heap.size, 1, none⟩) (blk_far (p := ⟨W.heap.size, 0, none⟩) (blk_below H2.out.2.2.1 BB) (WN _ N2.out) (.slice (some ⟨gR, 0, none⟩) 4 4)) (WN _ N2.out) (.slice none 0 0)
      exact ⟨_, rfl, made_row k1 (range_new k2) hx.2.2.2.2.2 k3 (fun _ => re_none hx.2.2.2.2.1) H1.out.1 k4 (fun _ => re_none H1.out.2.2.2) H2.out.1 k5 (fun _ => re_none H2.out.2.2.2) (Nat.le_of_lt GW11.out) ⟨Nat.le_of_lt GW.out, ne_type c3 k1 (by decide)⟩ ⟨Nat.le_of_lt N1.out, ne_type c4 k1 (by decide)⟩ ⟨Nat.le_of_lt N2.out, ne_type c5 k1 (by decide)⟩ ⟨Nat.le_of_lt GW4.out, ne_type k2 k1 (by decide)⟩, ((join_below HB2.out (join_below HB3.out (join_below HBF.out ST.out))).setCell (Nat.le_refl _) _).setCell (Nat.le_refl _) _⟩
   · go_simp
     obtain ⟨v2, hv⟩ : ∃ x, v1.alloc (Obj.cells #[.int .i32 10, .int .i32 10, .int .i32 98, .int .i32 98] 80) = x := ⟨_, rfl⟩
     rw [hv]
     obtain ⟨g4, hg⟩ : ∃ x, v1.heap.size = x := ⟨_, rfl⟩
     rw [hg]
     have F4 : Aside0 (v2.heap[g4]? = some (.cells #[.int .i32 10, .int .i32 10, .int .i32 98, .int .i32 98] 80 (0, 0))) := ⟨by rw [← hv, ← hg]; exact blk_new _ _⟩
     have GW4 : Aside0 (W.heap.size < g4) := ⟨by have h1 := HW3.out; have h2 := HV1.out.size; omega⟩
     have ST : Aside0 (Below v1.heap.size v1 v2) := ⟨hv ▸ below1 _ _⟩
     have HV2 : Aside0 (Below w3.heap.size w3 v2) := ⟨join_below HV1.out ST.out⟩
     clear hv hg
     have F13 := Aside0.mk (blk_below F13.out ST.out)
     refine hK _ _ ⟨⟨_, HV2.out⟩, rfl⟩ ?_
     clear hK K ST
     iterate 2 ((first | refine takeR (i := 5) (by decide +kernel) (by rfl) ?_ ?_ ?_ | refine takeR (i := 6) (by decide +kernel) (by rfl) ?_ ?_ ?_); (focus exact fun _ _ _ _ h => h); (focus exact ⟨⟨_, HV2.out⟩, rfl⟩); intro K hK; go_simp; (with_reducible refine hK _ ?_); clear hK K)
     refine hall1 (i := 0) (by kernel_rfl) (by rfl) (fun K hK => ?_)
     go_simp
     refine (one_any 97 _).mono ?_
     rintro e v3 ⟨a0, c0, E0, e0, X0, rfl, f1, f2, fX, f3, f4, f5, hb⟩
     have FN : Aside0 (a0 ≠ g13) := ⟨by have := blk_lt F13.out; omega⟩
     have G0 := Aside0.mk f5
     have GW : Aside0 (W.heap.size < a0) := ⟨by have h1 := HW3.out; have h2 := HV2.out.size; omega⟩
     have ST := Aside0.mk hb
     have HV3 : Aside0 (Below w3.heap.size w3 v3) := ⟨join_below HV2.out hb⟩
     have F0 := Aside0.mk (And.intro f2 (And.intro fX (And.intro f3 f1)))
     clear f1 f2 f3 f4 f5 fX hb
     have F13 := Aside0.mk (blk_below F13.out ST.out)
     have F4 := Aside0.mk (blk_below F4.out ST.out)
     refine hK _ _ ⟨⟨_, HV3.out⟩, rfl⟩ ?_
     clear hK K ST
     (refine takeR (i := 1) (by kernel_rfl) (by rfl) ?_ ?_ ?_; (focus exact fun _ _ _ _ h => h); (focus exact ⟨⟨_, HV3.out⟩, rfl⟩); intro K hK; go_simp; (with_reducible refine hK _ ?_); clear hK K)
     refine hall1 (i := 11) (by kernel_rfl) (by rfl) (fun K hK => ?_)
     go_simp
     obtain ⟨v4, hv⟩ : ∃ x, v3.alloc (Obj.cells #[.string ⟨#[97]⟩, .int .i64 0, .int .i64 1, .int .i64 2, .slice (some ⟨a0, 0, none⟩) 1 c0, .slice E0 0 e0, .string ⟨#[98]⟩, .int .i64 0, .int .i64 2, .int .i64 2, .slice (some ⟨g4, 0, none⟩) 2 2, .slice none 0 0, .string ⟨#[111]⟩, .int .i64 1, .int .i64 3, .int .i64 2, .slice (some ⟨a1, 0, none⟩) 1 c1, .slice A2 0 c2, .string ⟨#[99]⟩, .int .i64 2, .int .i64 4, .int .i64 2, .slice (some ⟨b1, 0, none⟩) 1 d1, .slice B2 0 d2] 40) = x := ⟨_, rfl⟩
     rw [hv]
     obtain ⟨gR, hg⟩ : ∃ x, v3.heap.size = x := ⟨_, rfl⟩
     rw [hg]
     have F11 : Aside0 (v4.heap[gR]? = some (.cells #[.string ⟨#[97]⟩, .int .i64 0, .int .i64 1, .int .i64 2, .slice (some ⟨a0, 0, none⟩) 1 c0, .slice E0 0 e0, .string ⟨#[98]⟩, .int .i64 0, .int .i64 2, .int .i64 2, .slice (some ⟨g4, 0, none⟩) 2 2, .slice none 0 0, .string ⟨#[111]⟩, .int .i64 1, .int .i64 3, .int .i64 2, .slice (some ⟨a1, 0, none⟩) 1 c1, .slice A2 0 c2, .string ⟨#[99]⟩, .int .i64 2, .int .i64 4, .int .i64 2, .slice (some ⟨b1, 0, none⟩) 1 d1, .slice B2 0 d2] 40 (0, 0))) := ⟨by rw [← hv, ← hg]; exact blk_new _ _⟩
     have GW11 : Aside0 (W.heap.size < gR) := ⟨by have h1 := HW3.out; have h2 := HV3.out.size; omega⟩
     have ST : Aside0 (Below v3.heap.size v3 v4) := ⟨hv ▸ below1 _ _⟩
     have HV4 : Aside0 (Below w3.heap.size w3 v4) := ⟨join_below HV3.out ST.out⟩
     clear hv hg
     have F13 := Aside0.mk (blk_below F13.out ST.out)
     have F4 := Aside0.mk (blk_below F4.out ST.out)
     have G0 := Aside0.mk (Nat.lt_of_lt_of_le G0.out ST.out.size)
     have F0 := Aside0.mk (And.intro (Kd.F_below F0.out.1 ST.out) (And.intro (blk_below F0.out.2.1 ST.out) F0.out.2.2))
     refine hK _ _ ⟨⟨_, HV4.out⟩, rfl⟩ ?_
     clear hK K ST
     (refine takeR (i := 12) (by kernel_rfl) (by rfl) ?_ ?_ ?_; (focus exact fun _ _ _ _ h => h); (focus exact ⟨⟨_, HV4.out⟩, rfl⟩); intro K hK; go_simp; (with_reducible refine hK _ ?_); clear hK K)
     have ne4 : g4 ≠ g13 := fun e => by have h := F4.out; rw [e, F13.out] at h; simp at h
     have neR : gR ≠ g13 := fun e => by have h := F11.out; rw [e, F13.out] at h; simp at h
     have y0 : World.cell? v4 ⟨g13, 0, none⟩ = some (.slice none 0 0) := (blk_cell F13.out 0).trans rfl
     have y1 : World.cell? v4 ⟨g13, 1, none⟩ = some (.slice none 0 0) := (blk_cell F13.out 1).trans rfl
     have z0 := blk_frozen F13.out 0
     have z1 := blk_frozen F13.out 1
     have hp1 := blk_put F13.out 0 (.slice (some ⟨gR, 0, none⟩) 4 4) rfl
     have y2 : (World.setCell v4 ⟨g13, 0, none⟩ (.slice (some ⟨gR, 0, none⟩) 4 4)).cell? ⟨g13, 1, none⟩ = some (.slice none 0 0) := (blk_cell hp1 1).trans rfl
     have z2 := blk_frozen hp1 1
     have hp2 := blk_put hp1 1 (.slice none 0 0) rfl
     obtain ⟨uf, huf⟩ : ∃ x, (World.setCell v4 ⟨g13, 0, none⟩ (.slice (some ⟨gR, 0, none⟩) 4 4)).setCell ⟨g13, 1, none⟩ (.slice none 0 0) = x := ⟨_, rfl⟩
     have HBF : Aside0 (Below w3.heap.size w3 uf) := ⟨huf ▸ (HV4.out.setCell HGE.out _).setCell HGE.out _⟩
     have f11 := blk_far (p := ⟨g13, 1, none⟩) (blk_far (p := ⟨g13, 0, none⟩) F11.out neR (.slice (some ⟨gR, 0, none⟩) 4 4)) neR (.slice none 0 0)
     have f4 := blk_far (p := ⟨g13, 1, none⟩) (blk_far (p := ⟨g13, 0, none⟩) F4.out ne4 (.slice (some ⟨gR, 0, none⟩) 4 4)) ne4 (.slice none 0 0)
     have f0 := Kd.F_far (p := ⟨g13, 1, none⟩) (Kd.F_far (p := ⟨g13, 0, none⟩) F0.out.1 (fun k hk => by rw [hk]; exact FN.out) (.slice (some ⟨gR, 0, none⟩) 4 4)) (fun k hk => by rw [hk]; exact FN.out) (.slice none 0 0)
     have fx := blk_far (p := ⟨g13, 1, none⟩) (blk_far (p := ⟨g13, 0, none⟩) F0.out.2.1 FN.out (.slice (some ⟨gR, 0, none⟩) 4 4)) FN.out (.slice none 0 0)
     rw [huf] at hp2 f11 f4 f0 fx
     have HF := Aside0.mk hp2
     have HX := Aside0.mk (And.intro f11 (And.intro f4 (And.intro f0 (And.intro fx F0.out.2.2))))
     clear hp2 f11 f4 f0 fx ne4 neR hp1
     refine hall1 (i := 14) (by kernel_rfl) (by rfl) (fun K hK => ?_)
     go_simp
     clear huf y0 y1 y2 z0 z1 z2 F0 F4 F11 F13
     refine hK _ _ ⟨⟨_, HBF.out⟩, rfl⟩ ?_
     clear hK K
     refine wpAnyH_done (by kernel_rfl) ?_ _
     go_wp2
     obtain ⟨wl, hwl⟩ : ∃ x, (uf.alloc (Obj.cells #[.string ⟨#[111]⟩] 9)).alloc (Obj.cells #[.string ⟨#[99]⟩] 9) = x := ⟨_, rfl⟩
     rw [hwl]
     have ST : Aside0 (Below uf.heap.size uf wl) := ⟨hwl ▸ below_alloc (below1 _ _) _⟩
     clear hwl
     go_loopw [8] (fun i w' => i = .int .i64 0 ∧ w' = wl) (fun _ _ => 0)
     case atStart => exact ⟨rfl, rfl⟩
     case round =>
      obtain ⟨rfl, hwr⟩ := hrel
      rw [hwr]
      clear hwr
      have hg := blk_below HF.out ST.out
      have y0 : wl.cell? ⟨g13, 0, none⟩ = some (.slice (some ⟨gR, 0, none⟩) 4 4) := (blk_cell hg 0).trans rfl
      have y1 : wl.cell? ⟨g13, 1, none⟩ = some (.slice none 0 0) := (blk_cell hg 1).trans rfl
      have hw := blk_below (blk_below (blk_below (blk_below HBLK.out HB12.out) HB3.out) HBF.out) ST.out
      have x0 : wl.cell? ⟨W.heap.size, 0, none⟩ = some (.slice none 0 0) := (blk_cell hw 0).trans rfl
      have x1 : wl.cell? ⟨W.heap.size, 1, none⟩ = some (.slice none 0 0) := (blk_cell hw 1).trans rfl
      have z0 := blk_frozen hw 0
      have z1 := blk_frozen hw 1
      have hp1 := blk_put hw 0 (.slice (some ⟨gR, 0, none⟩) 4 4) rfl
      have x2 : (wl.setCell ⟨W.heap.size, 0, none⟩ (.slice (some ⟨gR, 0, none⟩) 4 4)).cell? ⟨W.heap.size, 1, none⟩ = some (.slice none 0 0) := (blk_cell hp1 1).trans rfl
      have z2 := blk_frozen hp1 1
      have HP2 := Aside0.mk (blk_put hp1 1 (.slice none 0 0) rfl)
      clear hg hw hp1
      go_wp2
      refine bodyPost_ret (results_cell_row rfl _ _ W.heap.size 25 #[.slice (some ⟨gR, 0, none⟩) 4 4, .slice none 0 0] (0, 0) _ rfl HP2.out Tryz.underlying25 rfl (by kernel_rfl)) rfl ?_
      have hx := HX.out
      have WN : ∀ g : Nat, W.heap.size < g → g ≠ W.heap.size := fun g h => by omega
      have k1 := blk_far (p := ⟨W.heap.size, 1, none⟩) (blk_far (p := ⟨W.heap.size, 0, none⟩) (blk_below hx.1 ST.out) (WN _ GW11.out) (.slice (some ⟨gR, 0, none⟩) 4 4)) (WN _ GW11.out) (.slice none 0 0)
      have k2 := blk_far (p := ⟨W.heap.size, 1, none⟩) (blk_far (p := ⟨W.heap.size, 0, none⟩) (blk_below hx.2.1 ST.out) (WN _ GW4.out) (.slice (some ⟨gR, 0, none⟩) 4 4)) (WN _ GW4.out) (.slice none 0 0)
      have k3 := f_put (m := 4) (c := 4) GW.out ⟨gR, 0, none⟩ (Kd.F_below hx.2.2.1 ST.out)
      have c3 := blk_far (p := ⟨W.heap.size, 1, none⟩) (blk_far (p := ⟨W.heap.size, 0, none⟩) (blk_below hx.2.2.2.1 ST.out) (WN _ GW.out) (.slice (some ⟨gR, 0, none⟩) 4 4)) (WN _ GW.out) (.slice none 0 0)
      have BB := join_below HB3.out (join_below HBF.out ST.out)
      have k4 := f_put (m := 4) (c := 4) N1.out ⟨gR, 0, none⟩ (Kd.F_below (Kd.F_below H1.out.2.1 HB12.out) BB)
      have c4 := blk_far (p := ⟨W.heap.size, 1, none⟩) (blk_far (p := ⟨W.heap.size, 0, none⟩) (blk_below (blk_below H1.out.2.2.1 HB12.out) BB) (WN _ N1.out) (.slice (some ⟨gR, 0, none⟩) 4 4)) (WN _ N1.out) (.slice none 0 0)
      have k5 := f_put (m := 4) (c := 4) N2.out ⟨gR, 0, none⟩ (Kd.F_below H2.out.2.1 BB)
      have c5 := blk_far (p := ⟨W.heap.size, 1, none⟩) (blk_far (p := ⟨W.heap.size, 0, none⟩) (blk_below H2.out.2.2.1 BB) (WN _ N2.out) (.slice (some ⟨gR, 0, none⟩) 4 4)) (WN _ N2.out) (.slice none 0 0)
      exact ⟨_, rfl, made_row k1 (range_new k2) hx.2.2.2.2.2 k3 (fun _ => re_none hx.2.2.2.2.1) H1.out.1 k4 (fun _ => re_none H1.out.2.2.2) H2.out.1 k5 (fun _ => re_none H2.out.2.2.2) (Nat.le_of_lt GW11.out) ⟨Nat.le_of_lt GW.out, ne_type c3 k1 (by decide)⟩ ⟨Nat.le_of_lt N1.out, ne_type c4 k1 (by decide)⟩ ⟨Nat.le_of_lt N2.out, ne_type c5 k1 (by decide)⟩ ⟨Nat.le_of_lt GW4.out, ne_type k2 k1 (by decide)⟩, ((join_below HB2.out (join_below HB3.out (join_below HBF.out ST.out))).setCell (Nat.le_refl _) _).setCell (Nat.le_refl _) _⟩
def tokA : Tok := ⟨⟨#[97]⟩, 0, 1, oneT 97⟩
def twiceT : List Tok := madeT ++ [tokA]
theorem rul_nil {W : World} {A : Option Addr} : kRul.C W A 0 [] := ⟨rfl, by decide, fun h0 => absurd h0 (by decide)⟩
theorem pt_nil {W : World} {A : Option Addr} : kPt.C W A 0 [] := ⟨rfl, by decide, fun h0 => absurd h0 (by decide)⟩
theorem tx_nil {W : World} {A : Option Addr} : Kd.string.C W A 0 [] := ⟨rfl, by decide, fun h0 => absurd h0 (by decide)⟩
theorem tok_nil {W : World} {A : Option Addr} : kTok.C W A 0 [] := ⟨rfl, by decide, fun h0 => absurd h0 (by decide)⟩
theorem told_count : gram_Count.f 9 7 [] [] [⟨4, [], [], []⟩] = some (2, 2) := by kernel_rfl
def ToldMid (w3 : World) (b6 : Nat) (W : World) : Prop := ∃ A c, 5 ≤ c ∧ W.heap[b6]? = some (.cells #[.slice A 5 c, .slice none 0 0] 25 (0, 0)) ∧ kTok.C W A 5 twiceT ∧ Below w3.heap.size w3 W
theorem told_end {w3 w : World} {b6 : Nat} {v : Value} (hb : Below w3.heap.size w3 w) (h6 : w3.heap.size ≤ b6) (hN : Kd.N kTok 40 w w3.heap.size (fun k => k ≠ b6) v twiceT) {u : Value} (hblk : w.heap[b6]? = some (.cells #[u, .slice none 0 0] 25 (0, 0))) :
 ToldMid w3 b6 (w.setCell ⟨b6, 0, none⟩ v) := by
 have hN2 := Kd.N_far hN (p := ⟨b6, 0, none⟩) (fun k hk => hk) v
 obtain ⟨A, c, hv⟩ := Kd.N_slice hN
 subst hv
 obtain ⟨_, h1, h2⟩ := Kd.N_reads' hN2
 exact ⟨A, c, h1, blk_put hblk 0 _ rfl, h2, hb.setCell h6 _⟩
set_option maxHeartbeats 8000000 in
set_option maxRecDepth 100000 in
theorem told_any (h0 : ChkC [] [] 6 0) (h1 : ChkC madeT [] 0 0) (h2 : ChkC twiceT [] 4 4) (W : World) (hO : OwnAt W) :
 Calls Tryz.prog 5 #[] W fun e W' => e = .returned (.bool true) ∧ Below W.heap.size W W' := by
 have H0 := Aside0.mk h0
 have H1 := Aside0.mk h1
 have H2 := Aside0.mk h2
 have HO := Aside0.mk hO
 have hu23 := Tryz.underlying22
 clear h0 h1 h2 hO
 go_enter Tryz.func5, Tryz.ntmps5
 simp only [List.append]
 go_wp2_with fail
 refine (make_nil _).mono ?_
 rintro e w1 ⟨v, rfl, hN, hb⟩
 obtain ⟨gR, cap, rfl, hg, hg2, X, hX⟩ := Kd.N_form hN (show 0 < madeT.length from by decide)
 have hl4 : madeT.length = 4 := rfl
 rw [hl4] at hN ⊢
 have HB1 := Aside0.mk hb
 have HN := Aside0.mk hN
 have HgR := Aside0.mk hg2
 clear hN hb hg hg2 hX hl4
 go_wp2_with fail
 obtain ⟨b1, hb1⟩ : ∃ x, w1.heap.size = x := ⟨_, rfl⟩
 obtain ⟨w2, hw2⟩ : ∃ x, w1.alloc (.cells #[.slice (some ⟨gR, 0, none⟩) 4 cap, .slice none 0 0] 25) = x := ⟨_, rfl⟩
 have HB2 : Aside0 (Below W.heap.size W w2) := ⟨hw2 ▸ below_alloc HB1.out _⟩
 have HN2 : Aside0 (Kd.N kTok 40 w2 W.heap.size (fun k => W.heap.size ≤ k) (.slice (some ⟨gR, 0, none⟩) 4 cap) madeT) := ⟨hw2 ▸ Kd.N_alloc HN.out _⟩
 have HT1 : Aside0 (w2.heap[b1]? = some (.cells #[.slice (some ⟨gR, 0, none⟩) 4 cap, .slice none 0 0] 25 (0, 0))) := ⟨by rw [← hw2, ← hb1]; exact blk_new _ _⟩
 have HGR : Aside0 (gR < w2.heap.size ∧ b1 < w2.heap.size ∧ gR ≠ b1) := ⟨by have := HgR.out; have h1 := blk_lt HT1.out; refine ⟨?_, h1, ?_⟩ <;> omega⟩
 clear HN HB1 HgR
 rw [hw2, hb1]
 clear hb1 hw2
 have hc0 := H0.out none 0 none 0 w2 tok_nil rul_nil (Kd.C_below HO.out HB2.out)
 refine hc0.mono ?_
 rintro e w3 ⟨rfl, hb⟩
 have HS3 := Aside0.mk hb
 have HB3 := Aside0.mk (join_below HB2.out hb)
 clear hb hc0
 go_wp2_with fail
 refine (gram_Count.calls 9 7 none 0 [] none 0 [] (some ⟨w3.heap.size, 0, none⟩) 1 [⟨4, [], [], []⟩] 2 2 _ tx_nil (Nat.le_refl _) tx_nil (Nat.le_refl _) (row_new (k := kPt) (blk_new w3 _) (by decide) (fun j x hx => ?_)) (Nat.le_refl _) told_count).mono ?_
 · match j, hx with
   | 0, hx =>
    obtain rfl := Option.some.inj hx
    refine ⟨_, rfl, k47_mk _ ⟨4, [], [], []⟩ (Nat.zero_le 0) (tx_nil (A := none)) (Nat.zero_le 0) (tx_nil (A := none)) (Nat.zero_le 0) (pt_nil (A := none)), fun i u hu => ?_⟩
    match i, hu with
    | 0, hu => exact hu
    | 1, hu => exact hu
    | 2, hu => exact hu
    | 3, hu => exact hu
    | i + 4, hu => simp at hu
   | j + 1, hx => simp at hx
 rintro e w4 ⟨rfl, hb⟩
 have HS4 := Aside0.mk (join_below HS3.out (join_below (below1 w3 _) hb))
 have HB4 := Aside0.mk (join_below HB3.out (join_below (below1 w3 _) hb))
 have hT := blk_below HT1.out HS4.out
 have y0 : w4.cell? ⟨b1, 0, none⟩ = some (.slice (some ⟨gR, 0, none⟩) 4 cap) := (blk_cell hT 0).trans rfl
 have y1 : w4.cell? ⟨b1, 1, none⟩ = some (.slice none 0 0) := (blk_cell hT 1).trans rfl
 have HT4 := Aside0.mk hT
 have HN4 : Aside0 (Kd.N kTok 40 w4 W.heap.size (fun k => W.heap.size ≤ k) (.slice (some ⟨gR, 0, none⟩) 4 cap) madeT) := ⟨Kd.N_below HN2.out HS4.out⟩
 have HG4 : Aside0 (gR < w4.heap.size ∧ b1 < w4.heap.size) := ⟨by have h1 := HGR.out; have h2 := HS4.out.size; exact ⟨by omega, by omega⟩⟩
 clear hb hT HS3 HS4 HN2 HT1 HB2 HB3
 go_upto_region 5 with (fail)
 obtain ⟨b6, hb6⟩ : ∃ x, w4.heap.size = x := ⟨_, rfl⟩
 obtain ⟨w5, hw5⟩ : ∃ x, w4.alloc (.cells #[.slice (some ⟨gR, 0, none⟩) 4 cap, .slice none 0 0] 25) = x := ⟨_, rfl⟩
 rw [hw5, hb6]
 have HT6 : Aside0 (w5.heap[b6]? = some (.cells #[.slice (some ⟨gR, 0, none⟩) 4 cap, .slice none 0 0] 25 (0, 0))) := ⟨by rw [← hw5, ← hb6]; exact blk_new _ _⟩
 have HB45 : Aside0 (Below w4.heap.size w4 w5) := ⟨hw5 ▸ below1 _ _⟩
 have HLE : Aside0 (w4.heap.size ≤ b6 ∧ b6 < w5.heap.size) := ⟨by have := blk_lt HT6.out; exact ⟨by omega, this⟩⟩
 have HT5 : Aside0 (w5.heap[b1]? = some (.cells #[.slice (some ⟨gR, 0, none⟩) 4 cap, .slice none 0 0] 25 (0, 0))) := ⟨blk_below HT4.out HB45.out⟩
 have HN5 : Aside0 (Kd.N kTok 40 w5 W.heap.size (fun k => W.heap.size ≤ k ∧ k < w4.heap.size) (.slice (some ⟨gR, 0, none⟩) 4 cap) madeT) := ⟨Kd.N_below (Kd.N_bound HN4.out) HB45.out⟩
 clear hw5 hb6 y0 y1
 go_cut [] (fun W => Aside0 (ToldMid w4 b6 W))
 case first =>
  have q0 : ∀ p : Later w4, p.wx.cell? ⟨b1, 0, none⟩ = some (.slice (some ⟨gR, 0, none⟩) 4 cap) := fun p => cell_after p.below ((blk_cell HT4.out 0).trans rfl)
  obtain ⟨cs, hcl, hFK, hcc, _⟩ := Kd.N_elem HN4.out tokA 0 (by decide) (by decide)
  have hA : madeT.getD (0 : Int).toNat tokA = tokA := rfl
  rw [hA] at hFK
  have HFK := Aside0.mk hFK
  obtain ⟨A4, c4, A5, c5, rfl, _, _, _, _⟩ := k40_open (Kd.FK_now hFK)
  have x0 : ∀ p : Later w4, p.wx.cell? ⟨gR, 0, none⟩ = some (.string tokA.f0) := fun p => cell_after p.below (hcc 0 _ rfl)
  have x1 : ∀ p : Later w4, p.wx.cell? ⟨gR, 1, none⟩ = some (.int .i64 tokA.f1) := fun p => cell_after p.below (hcc 1 _ rfl)
  have x2 : ∀ p : Later w4, p.wx.cell? ⟨gR, 2, none⟩ = some (.int .i64 tokA.f2) := fun p => cell_after p.below (hcc 2 _ rfl)
  have x3 : ∀ p : Later w4, p.wx.cell? ⟨gR, 3, none⟩ = some (.int .i64 tokA.f3.f0) := fun p => cell_after p.below (hcc 3 _ rfl)
  have x4 : ∀ p : Later w4, p.wx.cell? ⟨gR, 4, none⟩ = some (.slice A4 tokA.f3.f1.length c4) := fun p => cell_after p.below (hcc 4 _ rfl)
  have x5 : ∀ p : Later w4, p.wx.cell? ⟨gR, 5, none⟩ = some (.slice A5 tokA.f3.f2.length c5) := fun p => cell_after p.below (hcc 5 _ rfl)
  clear hcc hFK hA hcl
  obtain ⟨wd, hwd⟩ : ∃ x, w5.drew = x := ⟨_, rfl⟩
  have HL5 : Aside0 (Below w5.heap.size w5 wd) := ⟨hwd ▸ below_drew1 (Below.refl _ _)⟩
  have HL : Aside0 (Below w4.heap.size w4 wd) := ⟨join_below HB45.out HL5.out⟩
  have hund : undef = Value.tuple #[] := rfl
  refine wp_region_held (S := fun w' => ∃ p : Later w4, w' = p.wx) (by kernel_rfl) ?_
  change wpAnyH _ _ _ _ _ _ _ _ (World.drew _)
  rw [hwd]
  clear hwd
  iterate 6 ((first | refine takeR (i := 1) (by decide +kernel) (by rfl) ?_ ?_ ?_ | refine takeR (i := 2) (by decide +kernel) (by rfl) ?_ ?_ ?_ | refine takeR (i := 4) (by decide +kernel) (by rfl) ?_ ?_ ?_ | refine takeR (i := 5) (by decide +kernel) (by rfl) ?_ ?_ ?_ | refine takeR (i := 6) (by decide +kernel) (by rfl) ?_ ?_ ?_ | refine takeR (i := 7) (by decide +kernel) (by rfl) ?_ ?_ ?_); (focus first | exact fun _ _ _ _ h => h | exact fun _ _ _ _ h => HPQ.out _ _ _ _ (by rfl) h); (focus exact ⟨⟨_, HL.out⟩, rfl⟩); intro K hK; go_simp; (with_reducible refine hK _ ?_); clear hK K)
  clear q0 x0 x1 x2 x3 x4 x5
  have HD6 := Aside0.mk (blk_below HT6.out HL5.out)
  have HDN := Aside0.mk (Kd.N_below HN5.out HL5.out)
  have HDK : Aside0 (Kd.FK kTok wd (fun k => (W.heap.size ≤ k ∧ k ≠ gR) ∧ k < w4.heap.size) tokA [.string tokA.f0, .int .i64 tokA.f1, .int .i64 tokA.f2, .int .i64 tokA.f3.f0, .slice A4 tokA.f3.f1.length c4, .slice A5 tokA.f3.f2.length c5]) := ⟨Kd.FK_below (Kd.FK_bound HFK.out) HL.out⟩
  clear HFK HN5 HT6 HT5 HT4 HN4
  refine hall2 (i := 0) (j := 8) (by kernel_rfl) (by rfl) (by rfl) (fun K hK => ?_) (fun K hK => ?_)
  · go_simp
    obtain ⟨u1, hv⟩ : ∃ x, wd.alloc (.cells #[] 40) = x := ⟨_, rfl⟩
    rw [hv]
    obtain ⟨g0, hg⟩ : ∃ x, wd.heap.size = x := ⟨_, rfl⟩
    rw [hg]
    have ST : Aside0 (Below wd.heap.size wd u1) := ⟨hv ▸ below1 _ _⟩
    have BK : Aside0 (u1.heap[g0]? = some (.cells #[] 40 (0, 0))) := ⟨by rw [← hv, ← hg]; exact blk_new _ _⟩
    have GE0 : Aside0 (b6 < g0 ∧ w4.heap.size ≤ g0) := ⟨by have h1 := blk_lt HD6.out; have h2 := HLE.out; omega⟩
    have GS : Aside0 (wd.heap.size = g0) := ⟨hg⟩
    clear hv hg
    have HDN := Aside0.mk (Kd.N_below HDN.out ST.out)
    have HDK := Aside0.mk (Kd.FK_below HDK.out ST.out)
    have HD6 := Aside0.mk (blk_below HD6.out ST.out)
    have HL := Aside0.mk (join_below HL.out ST.out)
    have N0 : Aside0 (Kd.N kTok 40 u1 w4.heap.size (fun k => k ≠ b6) (.slice (some ⟨g0, 0, none⟩) 0 0) []) := ⟨n_empty kTok _ BK.out rfl GE0.out.2 (by have := GE0.out.1; omega)⟩
    have L0 : Aside0 (g0 < u1.heap.size) := ⟨blk_lt BK.out⟩
    clear BK ST GS
    refine hK _ _ ⟨⟨_, HL.out⟩, rfl⟩ ?_
    clear hK K
    refine hall2 (i := 3) (j := 8) (by kernel_rfl) (by rfl) (by rfl) (fun K hK => ?_) (fun K hK => ?_)
    · refine Kd.N_append_rows_step kTok w4.heap.size (by rfl) (.tmp 23) (.tmp 25) 22 40 (.agg #[.string ⟨#[]⟩, .int .i64 0, .int .i64 0, .int .i64 0, .slice none 0 0, .slice none 0 0]) 88 rfl Tryz.underlying22 (by kernel_rfl) rfl (by decide) (by decide) (.slice (some ⟨g0, 0, none⟩) 0 0) [] madeT (some ⟨gR, 0, none⟩) 4 cap (fun k => k ≠ b6) (fun k => W.heap.size ≤ k ∧ k < w4.heap.size) rfl rfl N0.out (Kd.N_F HDN.out) (fun k hk => ⟨by have := HLE.out; omega, by have := GE0.out; show ¬ some k = some g0; intro e; injection e; omega⟩) (fun k hk => by have := blk_lt HD6.out; omega) HL.out HL.out.size (by decide) ?_
      intro v3 u2 hN hB hg hat
      have ne6 : some b6 ≠ (Value.slice (some ⟨g0, 0, none⟩) 0 0).ownBlock := by have := GE0.out; show ¬ some b6 = some g0; intro e; injection e; omega
      have N3 := Aside0.mk hN
      have HD6 := Aside0.mk ((hg.block b6 (blk_lt HD6.out) ne6).trans HD6.out)
      have HL := Aside0.mk hB
      have LT3 : Aside0 (u1.heap.size ≤ u2.heap.size) := ⟨hg.size⟩
      have HDK := Aside0.mk (Kd.FK_grown HDK.out hg (fun k hk => by have h2 := GE0.out; show ¬ some k = some g0; intro e; injection e with e; omega))
      have HDN := Aside0.mk (Kd.N_grown HDN.out hg (fun k hk => by have h2 := GE0.out; show ¬ some k = some g0; intro e; injection e with e; omega))
      clear hN hB hg ne6 hat
      refine hK _ _ ⟨⟨_, HL.out⟩, rfl⟩ ?_
      clear hK K
      refine hall1 (i := 8) (by kernel_rfl) (by rfl) (fun K hK => ?_)
      go_simp
      obtain ⟨u3, hv⟩ : ∃ x, u2.alloc (.cells #[.string tokA.f0, .int .i64 tokA.f1, .int .i64 tokA.f2, .int .i64 tokA.f3.f0, .slice A4 tokA.f3.f1.length c4, .slice A5 tokA.f3.f2.length c5] 40) = x := ⟨_, rfl⟩
      rw [hv]
      obtain ⟨g8, hg⟩ : ∃ x, u2.heap.size = x := ⟨_, rfl⟩
      rw [hg]
      have ST : Aside0 (Below u2.heap.size u2 u3) := ⟨hv ▸ below1 _ _⟩
      have BK : Aside0 (u3.heap[g8]? = some (.cells #[.string tokA.f0, .int .i64 tokA.f1, .int .i64 tokA.f2, .int .i64 tokA.f3.f0, .slice A4 tokA.f3.f1.length c4, .slice A5 tokA.f3.f2.length c5] 40 (0, 0))) := ⟨by rw [← hv, ← hg]; exact blk_new _ _⟩
      have GE8 : Aside0 (b6 < g8 ∧ w4.heap.size ≤ g8) := ⟨by have h1 := blk_lt HD6.out; have h2 := HLE.out; omega⟩
      have GS : Aside0 (u2.heap.size = g8) := ⟨hg⟩
      clear hv hg
      have HDN := Aside0.mk (Kd.N_below HDN.out ST.out)
      have HDK := Aside0.mk (Kd.FK_below HDK.out ST.out)
      have HD6 := Aside0.mk (blk_below HD6.out ST.out)
      have HL := Aside0.mk (join_below HL.out ST.out)
      have F8 : Aside0 (Kd.F kTok u3 (fun q => q = g8 ∨ ((W.heap.size ≤ q ∧ q ≠ gR) ∧ q < w4.heap.size)) (some ⟨g8, 0, none⟩) 1 [tokA]) := ⟨f_one BK.out rfl HDK.out⟩
      have L8 : Aside0 (g8 < u3.heap.size) := ⟨blk_lt BK.out⟩
      have NE : Aside0 (some g8 ≠ v3.ownBlock) := ⟨fun e => by have h1 := Kd.N_lt N3.out g8 e.symm; have h2 := GS.out; omega⟩
      have N3 := Aside0.mk (Kd.N_below N3.out ST.out)
      clear BK ST GS
      refine hK _ _ ⟨⟨_, HL.out⟩, rfl⟩ ?_
      clear hK K
      refine hall1 (i := 9) (by kernel_rfl) (by rfl) (fun K hK => ?_)
      refine Kd.N_append_rows_step kTok w4.heap.size (by rfl) (.tmp 26) (.tmp 31) 22 40 (.agg #[.string ⟨#[]⟩, .int .i64 0, .int .i64 0, .int .i64 0, .slice none 0 0, .slice none 0 0]) 88 rfl Tryz.underlying22 (by kernel_rfl) rfl (by decide) (by decide) v3 madeT [tokA] (some ⟨g8, 0, none⟩) 1 1 (fun k => k ≠ b6) (fun q => q = g8 ∨ ((W.heap.size ≤ q ∧ q ≠ gR) ∧ q < w4.heap.size)) rfl rfl N3.out F8.out (fun k hk => ⟨by have := HLE.out; have := GE8.out; rcases hk with hk | hk <;> omega, by rcases hk with hk | hk; (· rw [hk]; exact NE.out); (· intro e; have := Kd.N_base N3.out k e.symm; omega)⟩) (fun k hk => by have := blk_lt HD6.out; omega) HL.out HL.out.size (by decide) ?_
      intro v9 u4 hN hB hg hat
      have N9 := Aside0.mk hN
      have HD6 := Aside0.mk ((hg.block b6 (blk_lt HD6.out) (fun e => (N3.out.1 b6 e.symm) rfl)).trans HD6.out)
      have HL := Aside0.mk hB
      clear hN hB hg hat
      refine hK _ _ ⟨⟨_, HL.out⟩, rfl⟩ ?_
      clear hK K
      (refine takeR (i := 10) (by kernel_rfl) (by rfl) ?_ ?_ ?_; (focus first | exact fun _ _ _ _ h => h | exact fun _ _ _ _ h => HPQ.out _ _ _ _ (by rfl) h); (focus exact ⟨⟨_, HL.out⟩, rfl⟩); intro K hK; go_simp; (with_reducible refine hK _ ?_); clear hK K)
      refine hall1 (i := 11) (by kernel_rfl) (by rfl) (fun K hK => ?_)
      obtain ⟨A9, c9, hv9⟩ := Kd.N_slice N9.out
      subst hv9
      have y0 : World.cell? u4 ⟨b6, 0, none⟩ = some (.slice (some ⟨gR, 0, none⟩) 4 cap) := (blk_cell HD6.out 0).trans rfl
      have z0 := blk_frozen HD6.out 0
      go_simp
      have HE := Aside0.mk (told_end HL.out HLE.out.1 N9.out HD6.out)
      refine hK _ _ ⟨⟨_, HE.out.elim fun _ h => h.elim fun _ h => h.2.2.2⟩, rfl⟩ ?_
      clear hK K y0 z0
      refine wpAnyH_done (by kernel_rfl) ?_ _
      go_wp2
      go_meet
      case rel => exact HE
    · go_simp
      obtain ⟨u2, hv⟩ : ∃ x, u1.alloc (.cells #[.string tokA.f0, .int .i64 tokA.f1, .int .i64 tokA.f2, .int .i64 tokA.f3.f0, .slice A4 tokA.f3.f1.length c4, .slice A5 tokA.f3.f2.length c5] 40) = x := ⟨_, rfl⟩
      rw [hv]
      obtain ⟨g8, hg⟩ : ∃ x, u1.heap.size = x := ⟨_, rfl⟩
      rw [hg]
      have ST : Aside0 (Below u1.heap.size u1 u2) := ⟨hv ▸ below1 _ _⟩
      have BK : Aside0 (u2.heap[g8]? = some (.cells #[.string tokA.f0, .int .i64 tokA.f1, .int .i64 tokA.f2, .int .i64 tokA.f3.f0, .slice A4 tokA.f3.f1.length c4, .slice A5 tokA.f3.f2.length c5] 40 (0, 0))) := ⟨by rw [← hv, ← hg]; exact blk_new _ _⟩
      have GE8 : Aside0 (b6 < g8 ∧ w4.heap.size ≤ g8) := ⟨by have h1 := blk_lt HD6.out; have h2 := HLE.out; omega⟩
      have GS : Aside0 (u1.heap.size = g8) := ⟨hg⟩
      clear hv hg
      have HDN := Aside0.mk (Kd.N_below HDN.out ST.out)
      have HDK := Aside0.mk (Kd.FK_below HDK.out ST.out)
      have HD6 := Aside0.mk (blk_below HD6.out ST.out)
      have HL := Aside0.mk (join_below HL.out ST.out)
      have F8 : Aside0 (Kd.F kTok u2 (fun q => q = g8 ∨ ((W.heap.size ≤ q ∧ q ≠ gR) ∧ q < w4.heap.size)) (some ⟨g8, 0, none⟩) 1 [tokA]) := ⟨f_one BK.out rfl HDK.out⟩
      have L8 : Aside0 (g8 < u2.heap.size) := ⟨blk_lt BK.out⟩
      have N0 := Aside0.mk (Kd.N_below N0.out ST.out)
      have NE0 : Aside0 (g8 ≠ g0) := ⟨by have h1 := L0.out; have h2 := GS.out; omega⟩
      clear BK ST GS
      refine hK _ _ ⟨⟨_, HL.out⟩, rfl⟩ ?_
      clear hK K
      refine hall1 (i := 3) (by kernel_rfl) (by rfl) (fun K hK => ?_)
      refine Kd.N_append_rows_step kTok w4.heap.size (by rfl) (.tmp 23) (.tmp 25) 22 40 (.agg #[.string ⟨#[]⟩, .int .i64 0, .int .i64 0, .int .i64 0, .slice none 0 0, .slice none 0 0]) 88 rfl Tryz.underlying22 (by kernel_rfl) rfl (by decide) (by decide) (.slice (some ⟨g0, 0, none⟩) 0 0) [] madeT (some ⟨gR, 0, none⟩) 4 cap (fun k => k ≠ b6) (fun k => W.heap.size ≤ k ∧ k < w4.heap.size) rfl rfl N0.out (Kd.N_F HDN.out) (fun k hk => ⟨by have := HLE.out; omega, by have := GE0.out; show ¬ some k = some g0; intro e; injection e; omega⟩) (fun k hk => by have := blk_lt HD6.out; omega) HL.out HL.out.size (by decide) ?_
      intro v3 u3 hN hB hg hat
      have ne6 : some b6 ≠ (Value.slice (some ⟨g0, 0, none⟩) 0 0).ownBlock := by have := GE0.out; show ¬ some b6 = some g0; intro e; injection e; omega
      have N3 := Aside0.mk hN
      have HD6 := Aside0.mk ((hg.block b6 (blk_lt HD6.out) ne6).trans HD6.out)
      have HL := Aside0.mk hB
      have LT3 : Aside0 (u2.heap.size ≤ u3.heap.size) := ⟨hg.size⟩
      have NE : Aside0 (some g8 ≠ v3.ownBlock) := ⟨by rcases hat with h | ⟨b, h, hb⟩; (· rw [h]; have := NE0.out; show ¬ some g8 = some g0; intro e; injection e; omega); (· rw [h]; have := L8.out; intro e; injection e; omega)⟩
      have F8 := Aside0.mk (Kd.F_grown F8.out hg (fun k hk => by have h1 := NE0.out; have h2 := GE0.out; show ¬ some k = some g0; intro e; injection e with e; rcases hk with hk | hk <;> omega))
      clear hN hB hg ne6 hat
      refine hK _ _ ⟨⟨_, HL.out⟩, rfl⟩ ?_
      clear hK K
      refine hall1 (i := 9) (by kernel_rfl) (by rfl) (fun K hK => ?_)
      refine Kd.N_append_rows_step kTok w4.heap.size (by rfl) (.tmp 26) (.tmp 31) 22 40 (.agg #[.string ⟨#[]⟩, .int .i64 0, .int .i64 0, .int .i64 0, .slice none 0 0, .slice none 0 0]) 88 rfl Tryz.underlying22 (by kernel_rfl) rfl (by decide) (by decide) v3 madeT [tokA] (some ⟨g8, 0, none⟩) 1 1 (fun k => k ≠ b6) (fun q => q = g8 ∨ ((W.heap.size ≤ q ∧ q ≠ gR) ∧ q < w4.heap.size)) rfl rfl N3.out F8.out (fun k hk => ⟨by have := HLE.out; have := GE8.out; rcases hk with hk | hk <;> omega, by rcases hk with hk | hk; (· rw [hk]; exact NE.out); (· intro e; have := Kd.N_base N3.out k e.symm; omega)⟩) (fun k hk => by have := blk_lt HD6.out; omega) HL.out HL.out.size (by decide) ?_
      intro v9 u4 hN hB hg hat
      have N9 := Aside0.mk hN
      have HD6 := Aside0.mk ((hg.block b6 (blk_lt HD6.out) (fun e => (N3.out.1 b6 e.symm) rfl)).trans HD6.out)
      have HL := Aside0.mk hB
      clear hN hB hg hat
      refine hK _ _ ⟨⟨_, HL.out⟩, rfl⟩ ?_
      clear hK K
      (refine takeR (i := 10) (by kernel_rfl) (by rfl) ?_ ?_ ?_; (focus first | exact fun _ _ _ _ h => h | exact fun _ _ _ _ h => HPQ.out _ _ _ _ (by rfl) h); (focus exact ⟨⟨_, HL.out⟩, rfl⟩); intro K hK; go_simp; (with_reducible refine hK _ ?_); clear hK K)
      refine hall1 (i := 11) (by kernel_rfl) (by rfl) (fun K hK => ?_)
      obtain ⟨A9, c9, hv9⟩ := Kd.N_slice N9.out
      subst hv9
      have y0 : World.cell? u4 ⟨b6, 0, none⟩ = some (.slice (some ⟨gR, 0, none⟩) 4 cap) := (blk_cell HD6.out 0).trans rfl
      have z0 := blk_frozen HD6.out 0
      go_simp
      have HE := Aside0.mk (told_end HL.out HLE.out.1 N9.out HD6.out)
      refine hK _ _ ⟨⟨_, HE.out.elim fun _ h => h.elim fun _ h => h.2.2.2⟩, rfl⟩ ?_
      clear hK K y0 z0
      refine wpAnyH_done (by kernel_rfl) ?_ _
      go_wp2
      go_meet
      case rel => exact HE
  · go_simp
    obtain ⟨u1, hv⟩ : ∃ x, wd.alloc (.cells #[.string tokA.f0, .int .i64 tokA.f1, .int .i64 tokA.f2, .int .i64 tokA.f3.f0, .slice A4 tokA.f3.f1.length c4, .slice A5 tokA.f3.f2.length c5] 40) = x := ⟨_, rfl⟩
    rw [hv]
    obtain ⟨g8, hg⟩ : ∃ x, wd.heap.size = x := ⟨_, rfl⟩
    rw [hg]
    have ST : Aside0 (Below wd.heap.size wd u1) := ⟨hv ▸ below1 _ _⟩
    have BK : Aside0 (u1.heap[g8]? = some (.cells #[.string tokA.f0, .int .i64 tokA.f1, .int .i64 tokA.f2, .int .i64 tokA.f3.f0, .slice A4 tokA.f3.f1.length c4, .slice A5 tokA.f3.f2.length c5] 40 (0, 0))) := ⟨by rw [← hv, ← hg]; exact blk_new _ _⟩
    have GE8 : Aside0 (b6 < g8 ∧ w4.heap.size ≤ g8) := ⟨by have h1 := blk_lt HD6.out; have h2 := HLE.out; omega⟩
    have GS : Aside0 (wd.heap.size = g8) := ⟨hg⟩
    clear hv hg
    have HDN := Aside0.mk (Kd.N_below HDN.out ST.out)
    have HDK := Aside0.mk (Kd.FK_below HDK.out ST.out)
    have HD6 := Aside0.mk (blk_below HD6.out ST.out)
    have HL := Aside0.mk (join_below HL.out ST.out)
    have F8 : Aside0 (Kd.F kTok u1 (fun q => q = g8 ∨ ((W.heap.size ≤ q ∧ q ≠ gR) ∧ q < w4.heap.size)) (some ⟨g8, 0, none⟩) 1 [tokA]) := ⟨f_one BK.out rfl HDK.out⟩
    have L8 : Aside0 (g8 < u1.heap.size) := ⟨blk_lt BK.out⟩
    clear BK ST GS
    refine hK _ _ ⟨⟨_, HL.out⟩, rfl⟩ ?_
    clear hK K
    refine hall1 (i := 0) (by kernel_rfl) (by rfl) (fun K hK => ?_)
    go_simp
    obtain ⟨u2, hv⟩ : ∃ x, u1.alloc (.cells #[] 40) = x := ⟨_, rfl⟩
    rw [hv]
    obtain ⟨g0, hg⟩ : ∃ x, u1.heap.size = x := ⟨_, rfl⟩
    rw [hg]
    have ST : Aside0 (Below u1.heap.size u1 u2) := ⟨hv ▸ below1 _ _⟩
    have BK : Aside0 (u2.heap[g0]? = some (.cells #[] 40 (0, 0))) := ⟨by rw [← hv, ← hg]; exact blk_new _ _⟩
    have GE0 : Aside0 (b6 < g0 ∧ w4.heap.size ≤ g0) := ⟨by have h1 := blk_lt HD6.out; have h2 := HLE.out; omega⟩
    have GS : Aside0 (u1.heap.size = g0) := ⟨hg⟩
    clear hv hg
    have HDN := Aside0.mk (Kd.N_below HDN.out ST.out)
    have HDK := Aside0.mk (Kd.FK_below HDK.out ST.out)
    have HD6 := Aside0.mk (blk_below HD6.out ST.out)
    have HL := Aside0.mk (join_below HL.out ST.out)
    have F8 := Aside0.mk (Kd.F_below F8.out ST.out)
    have NE0 : Aside0 (g8 ≠ g0) := ⟨by have h1 := L8.out; have h2 := GS.out; omega⟩
    have L8 := Aside0.mk (Nat.lt_of_lt_of_le L8.out ST.out.size)
    have N0 : Aside0 (Kd.N kTok 40 u2 w4.heap.size (fun k => k ≠ b6) (.slice (some ⟨g0, 0, none⟩) 0 0) []) := ⟨n_empty kTok _ BK.out rfl GE0.out.2 (by have := GE0.out.1; omega)⟩
    have L0 : Aside0 (g0 < u2.heap.size) := ⟨blk_lt BK.out⟩
    clear BK ST GS
    refine hK _ _ ⟨⟨_, HL.out⟩, rfl⟩ ?_
    clear hK K
    refine hall1 (i := 3) (by kernel_rfl) (by rfl) (fun K hK => ?_)
    refine Kd.N_append_rows_step kTok w4.heap.size (by rfl) (.tmp 23) (.tmp 25) 22 40 (.agg #[.string ⟨#[]⟩, .int .i64 0, .int .i64 0, .int .i64 0, .slice none 0 0, .slice none 0 0]) 88 rfl Tryz.underlying22 (by kernel_rfl) rfl (by decide) (by decide) (.slice (some ⟨g0, 0, none⟩) 0 0) [] madeT (some ⟨gR, 0, none⟩) 4 cap (fun k => k ≠ b6) (fun k => W.heap.size ≤ k ∧ k < w4.heap.size) rfl rfl N0.out (Kd.N_F HDN.out) (fun k hk => ⟨by have := HLE.out; omega, by have := GE0.out; show ¬ some k = some g0; intro e; injection e; omega⟩) (fun k hk => by have := blk_lt HD6.out; omega) HL.out HL.out.size (by decide) ?_
    intro v3 u3 hN hB hg hat
    have ne6 : some b6 ≠ (Value.slice (some ⟨g0, 0, none⟩) 0 0).ownBlock := by have := GE0.out; show ¬ some b6 = some g0; intro e; injection e; omega
    have N3 := Aside0.mk hN
    have HD6 := Aside0.mk ((hg.block b6 (blk_lt HD6.out) ne6).trans HD6.out)
    have HL := Aside0.mk hB
    have LT3 : Aside0 (u2.heap.size ≤ u3.heap.size) := ⟨hg.size⟩
    have NE : Aside0 (some g8 ≠ v3.ownBlock) := ⟨by rcases hat with h | ⟨b, h, hb⟩; (· rw [h]; have := NE0.out; show ¬ some g8 = some g0; intro e; injection e; omega); (· rw [h]; have := L8.out; intro e; injection e; omega)⟩
    have F8 := Aside0.mk (Kd.F_grown F8.out hg (fun k hk => by have h1 := NE0.out; have h2 := GE0.out; show ¬ some k = some g0; intro e; injection e with e; rcases hk with hk | hk <;> omega))
    clear hN hB hg ne6 hat
    refine hK _ _ ⟨⟨_, HL.out⟩, rfl⟩ ?_
    clear hK K
    refine hall1 (i := 9) (by kernel_rfl) (by rfl) (fun K hK => ?_)
    refine Kd.N_append_rows_step kTok w4.heap.size (by rfl) (.tmp 26) (.tmp 31) 22 40 (.agg #[.string ⟨#[]⟩, .int .i64 0, .int .i64 0, .int .i64 0, .slice none 0 0, .slice none 0 0]) 88 rfl Tryz.underlying22 (by kernel_rfl) rfl (by decide) (by decide) v3 madeT [tokA] (some ⟨g8, 0, none⟩) 1 1 (fun k => k ≠ b6) (fun q => q = g8 ∨ ((W.heap.size ≤ q ∧ q ≠ gR) ∧ q < w4.heap.size)) rfl rfl N3.out F8.out (fun k hk => ⟨by have := HLE.out; have := GE8.out; rcases hk with hk | hk <;> omega, by rcases hk with hk | hk; (· rw [hk]; exact NE.out); (· intro e; have := Kd.N_base N3.out k e.symm; omega)⟩) (fun k hk => by have := blk_lt HD6.out; omega) HL.out HL.out.size (by decide) ?_
    intro v9 u4 hN hB hg hat
    have N9 := Aside0.mk hN
    have HD6 := Aside0.mk ((hg.block b6 (blk_lt HD6.out) (fun e => (N3.out.1 b6 e.symm) rfl)).trans HD6.out)
    have HL := Aside0.mk hB
    clear hN hB hg hat
    refine hK _ _ ⟨⟨_, HL.out⟩, rfl⟩ ?_
    clear hK K
    (refine takeR (i := 10) (by kernel_rfl) (by rfl) ?_ ?_ ?_; (focus first | exact fun _ _ _ _ h => h | exact fun _ _ _ _ h => HPQ.out _ _ _ _ (by rfl) h); (focus exact ⟨⟨_, HL.out⟩, rfl⟩); intro K hK; go_simp; (with_reducible refine hK _ ?_); clear hK K)
    refine hall1 (i := 11) (by kernel_rfl) (by rfl) (fun K hK => ?_)
    obtain ⟨A9, c9, hv9⟩ := Kd.N_slice N9.out
    subst hv9
    have y0 : World.cell? u4 ⟨b6, 0, none⟩ = some (.slice (some ⟨gR, 0, none⟩) 4 cap) := (blk_cell HD6.out 0).trans rfl
    have z0 := blk_frozen HD6.out 0
    go_simp
    have HE := Aside0.mk (told_end HL.out HLE.out.1 N9.out HD6.out)
    refine hK _ _ ⟨⟨_, HE.out.elim fun _ h => h.elim fun _ h => h.2.2.2⟩, rfl⟩ ?_
    clear hK K y0 z0
    refine wpAnyH_done (by kernel_rfl) ?_ _
    go_wp2
    go_meet
    case rel => exact HE
 case rest =>
  obtain ⟨A, c, hc, h6, hC5, hB5⟩ := hcut.out
  have HC5 := Aside0.mk hC5
  have HT1 := Aside0.mk (blk_below HT4.out hB5)
  have HT6 := Aside0.mk h6
  have HOW := Aside0.mk (Kd.C_below HO.out (join_below HB4.out hB5))
  have HCR := Aside0.mk (Kd.C_below (Kd.N_reads' HN4.out).2.2 hB5)
  have HVV := Aside0.mk (join_below HB4.out hB5)
  have a0 := (blk_cell HT1.out 0).trans rfl
  have a1 := (blk_cell HT1.out 1).trans rfl
  have d0 := (blk_cell h6 0).trans rfl
  have d1 := (blk_cell h6 1).trans rfl
  clear hcut hC5 hB5 h6 HN4 HN5 HT5 HB45 HLE HG4 HGR HB4 HO H0
  go_wp2_with fail
  refine (H2.out A c none 0 _ HC5.out rul_nil HOW.out).mono ?_
  rintro e v0 ⟨he, hb⟩
  subst he
  have HT1 := Aside0.mk (blk_below HT1.out hb)
  have HT6 := Aside0.mk (blk_below HT6.out hb)
  have HOW := Aside0.mk (Kd.C_below HOW.out hb)
  have HC5 := Aside0.mk (Kd.C_below HC5.out hb)
  have HCR := Aside0.mk (Kd.C_below HCR.out hb)
  have HVV := Aside0.mk (join_below HVV.out hb)
  clear a0 a1 d0 d1 hb
  have a0 := (blk_cell HT1.out 0).trans rfl
  have a1 := (blk_cell HT1.out 1).trans rfl
  have d0 := (blk_cell HT6.out 0).trans rfl
  have d1 := (blk_cell HT6.out 1).trans rfl
  go_wp2_with fail
  refine (gmay_any madeT [] 0 0 H1.out (some ⟨gR, 0, none⟩) cap none 0 _ HCR.out rul_nil HOW.out).mono ?_
  rintro e v1 ⟨he, hb⟩
  rw [show ((0 : Int) == 0) = true from rfl] at he
  subst he
  have HT1 := Aside0.mk (blk_below HT1.out hb)
  have HT6 := Aside0.mk (blk_below HT6.out hb)
  have HOW := Aside0.mk (Kd.C_below HOW.out hb)
  have HC5 := Aside0.mk (Kd.C_below HC5.out hb)
  have HCR := Aside0.mk (Kd.C_below HCR.out hb)
  have HVV := Aside0.mk (join_below HVV.out hb)
  clear a0 a1 d0 d1 hb
  have a0 := (blk_cell HT1.out 0).trans rfl
  have a1 := (blk_cell HT1.out 1).trans rfl
  have d0 := (blk_cell HT6.out 0).trans rfl
  have d1 := (blk_cell HT6.out 1).trans rfl
  go_wp2_with fail
  refine (name_any ⟨#[97, 98, 49]⟩ (by decide) _ HOW.out).mono ?_
  rintro e v2 ⟨he, hb⟩
  rw [show nameS ⟨#[97, 98, 49]⟩ = true from by kernel_rfl] at he
  subst he
  have HT1 := Aside0.mk (blk_below HT1.out hb)
  have HT6 := Aside0.mk (blk_below HT6.out hb)
  have HOW := Aside0.mk (Kd.C_below HOW.out hb)
  have HC5 := Aside0.mk (Kd.C_below HC5.out hb)
  have HCR := Aside0.mk (Kd.C_below HCR.out hb)
  have HVV := Aside0.mk (join_below HVV.out hb)
  clear a0 a1 d0 d1 hb
  have a0 := (blk_cell HT1.out 0).trans rfl
  have a1 := (blk_cell HT1.out 1).trans rfl
  have d0 := (blk_cell HT6.out 0).trans rfl
  have d1 := (blk_cell HT6.out 1).trans rfl
  go_wp2_with fail
  refine (name_any ⟨#[116, 111, 107]⟩ (by decide) _ HOW.out).mono ?_
  rintro e v3 ⟨he, hb⟩
  rw [show nameS ⟨#[116, 111, 107]⟩ = false from by kernel_rfl] at he
  subst he
  have HT1 := Aside0.mk (blk_below HT1.out hb)
  have HT6 := Aside0.mk (blk_below HT6.out hb)
  have HOW := Aside0.mk (Kd.C_below HOW.out hb)
  have HC5 := Aside0.mk (Kd.C_below HC5.out hb)
  have HCR := Aside0.mk (Kd.C_below HCR.out hb)
  have HVV := Aside0.mk (join_below HVV.out hb)
  clear a0 a1 d0 d1 hb
  have a0 := (blk_cell HT1.out 0).trans rfl
  have a1 := (blk_cell HT1.out 1).trans rfl
  have d0 := (blk_cell HT6.out 0).trans rfl
  have d1 := (blk_cell HT6.out 1).trans rfl
  go_wp2_with fail
  refine (name_any ⟨#[49, 97]⟩ (by decide) _ HOW.out).mono ?_
  rintro e v4 ⟨he, hb⟩
  rw [show nameS ⟨#[49, 97]⟩ = false from by kernel_rfl] at he
  subst he
  have HT1 := Aside0.mk (blk_below HT1.out hb)
  have HT6 := Aside0.mk (blk_below HT6.out hb)
  have HOW := Aside0.mk (Kd.C_below HOW.out hb)
  have HC5 := Aside0.mk (Kd.C_below HC5.out hb)
  have HCR := Aside0.mk (Kd.C_below HCR.out hb)
  have HVV := Aside0.mk (join_below HVV.out hb)
  clear a0 a1 d0 d1 hb
  have a0 := (blk_cell HT1.out 0).trans rfl
  have a1 := (blk_cell HT1.out 1).trans rfl
  have d0 := (blk_cell HT6.out 0).trans rfl
  have d1 := (blk_cell HT6.out 1).trans rfl
  go_wp2_with fail
  refine (find_any madeT (some ⟨gR, 0, none⟩) none cap 0 0 ⟨#[98]⟩ _ HCR.out).mono ?_
  rintro e v5 ⟨he, hb⟩
  rw [show findS madeT ⟨#[98]⟩ 0 = 1 from by kernel_rfl] at he
  subst he
  have HT1 := Aside0.mk (blk_below HT1.out hb)
  have HT6 := Aside0.mk (blk_below HT6.out hb)
  have HOW := Aside0.mk (Kd.C_below HOW.out hb)
  have HC5 := Aside0.mk (Kd.C_below HC5.out hb)
  have HCR := Aside0.mk (Kd.C_below HCR.out hb)
  have HVV := Aside0.mk (join_below HVV.out hb)
  clear a0 a1 d0 d1 hb
  have a0 := (blk_cell HT1.out 0).trans rfl
  have a1 := (blk_cell HT1.out 1).trans rfl
  have d0 := (blk_cell HT6.out 0).trans rfl
  have d1 := (blk_cell HT6.out 1).trans rfl
  go_wp2_with fail
  refine (find_any madeT (some ⟨gR, 0, none⟩) none cap 0 0 ⟨#[122, 122]⟩ _ HCR.out).mono ?_
  rintro e v6 ⟨he, hb⟩
  rw [show findS madeT ⟨#[122, 122]⟩ 0 = -1 from by kernel_rfl] at he
  subst he
  have HT1 := Aside0.mk (blk_below HT1.out hb)
  have HT6 := Aside0.mk (blk_below HT6.out hb)
  have HOW := Aside0.mk (Kd.C_below HOW.out hb)
  have HC5 := Aside0.mk (Kd.C_below HC5.out hb)
  have HCR := Aside0.mk (Kd.C_below HCR.out hb)
  have HVV := Aside0.mk (join_below HVV.out hb)
  clear a0 a1 d0 d1 hb
  have a0 := (blk_cell HT1.out 0).trans rfl
  have a1 := (blk_cell HT1.out 1).trans rfl
  have d0 := (blk_cell HT6.out 0).trans rfl
  have d1 := (blk_cell HT6.out 1).trans rfl
  go_wp2_with fail
  refine (emp_any ⟨4, [], [], []⟩ _ _ _ (Below.refl _ _) (k47_mk _ ⟨4, [], [], []⟩ (Nat.zero_le 0) (tx_nil (A := none)) (Nat.zero_le 0) (tx_nil (A := none)) (Nat.zero_le 0) (pt_nil (A := none)))).mono ?_
  rintro e v7 ⟨he, hb⟩
  rw [show empP ⟨4, [], [], []⟩ = true from by kernel_rfl] at he
  subst he
  have HT1 := Aside0.mk (blk_below HT1.out hb)
  have HT6 := Aside0.mk (blk_below HT6.out hb)
  have HOW := Aside0.mk (Kd.C_below HOW.out hb)
  have HC5 := Aside0.mk (Kd.C_below HC5.out hb)
  have HCR := Aside0.mk (Kd.C_below HCR.out hb)
  have HVV := Aside0.mk (join_below HVV.out hb)
  clear a0 a1 d0 d1 hb
  have a0 := (blk_cell HT1.out 0).trans rfl
  have a1 := (blk_cell HT1.out 1).trans rfl
  have d0 := (blk_cell HT6.out 0).trans rfl
  have d1 := (blk_cell HT6.out 1).trans rfl
  go_wp2_with fail
  refine (same_any madeT madeT [] [] (some ⟨gR, 0, none⟩) none (some ⟨gR, 0, none⟩) none cap 0 cap 0 _ HCR.out rul_nil HCR.out rul_nil).mono ?_
  rintro e v8 ⟨he, hb⟩
  rw [show sameS madeT [] madeT [] = true from by kernel_rfl] at he
  subst he
  have HT1 := Aside0.mk (blk_below HT1.out hb)
  have HT6 := Aside0.mk (blk_below HT6.out hb)
  have HOW := Aside0.mk (Kd.C_below HOW.out hb)
  have HC5 := Aside0.mk (Kd.C_below HC5.out hb)
  have HCR := Aside0.mk (Kd.C_below HCR.out hb)
  have HVV := Aside0.mk (join_below HVV.out hb)
  clear a0 a1 d0 d1 hb
  have a0 := (blk_cell HT1.out 0).trans rfl
  have a1 := (blk_cell HT1.out 1).trans rfl
  have d0 := (blk_cell HT6.out 0).trans rfl
  have d1 := (blk_cell HT6.out 1).trans rfl
  go_wp2_with fail
  refine (same_any madeT twiceT [] [] (some ⟨gR, 0, none⟩) none A none cap 0 c 0 _ HCR.out rul_nil HC5.out rul_nil).mono ?_
  rintro e v9 ⟨he, hb⟩
  rw [show sameS madeT [] twiceT [] = false from by kernel_rfl] at he
  subst he
  have HT1 := Aside0.mk (blk_below HT1.out hb)
  have HT6 := Aside0.mk (blk_below HT6.out hb)
  have HOW := Aside0.mk (Kd.C_below HOW.out hb)
  have HC5 := Aside0.mk (Kd.C_below HC5.out hb)
  have HCR := Aside0.mk (Kd.C_below HCR.out hb)
  have HVV := Aside0.mk (join_below HVV.out hb)
  clear a0 a1 d0 d1 hb
  have a0 := (blk_cell HT1.out 0).trans rfl
  have a1 := (blk_cell HT1.out 1).trans rfl
  have d0 := (blk_cell HT6.out 0).trans rfl
  have d1 := (blk_cell HT6.out 1).trans rfl
  go_wp2
  go_ret
  exact ⟨rfl, HVV.out⟩
theorem chk_none : ChkC [] [] 6 0 := chk_of [] [] 6 0 (fun t h => by simp at h) (by kernel_rfl)
theorem chk_made : ChkC madeT [] 0 0 := chk_of madeT [] 0 0 made_ok (by kernel_rfl)
theorem chk_twice : ChkC twiceT [] 4 4 := chk_of twiceT [] 4 4 (fun t h => by
 rcases List.mem_append.1 h with h | h
 · exact made_ok t h
 · obtain rfl := List.mem_singleton.1 h
   exact ok_set _ _ _ _ (by decide) may_97 ⟨_, emp_97⟩) (by kernel_rfl)
abbrev MT : Tok → Bool := fun t => (wtR t.f3 1 60).1 && mayR t.f3
abbrev ET : Tok → Bool := fun t => emR t.f3
theorem may_is (x : RE) (h : okT x = true) : regex_May.f x.f0 x.f1 x.f2 = some ((wtR x 1 60).1 && mayR x) := by
 obtain ⟨k, s, l⟩ := x
 show regex_May.f k s l = _
 unfold regex_May.f regex_within.f regex_may.f
 rw [if_pos h]
 cases (wtR ⟨k, s, l⟩ 1 60).1 <;> rfl
theorem tok_ok (t : Tok) (hs : t.f0.size ≤ 9223372036854775807) (h : okT t.f3 = true) : TokOk MT ET t := ⟨hs, may_is t.f3 h, fun hm => by
 have hm2 : mayR t.f3 = true := by
  have hm' : ((wtR t.f3 1 60).1 && mayR t.f3) = true := hm
  rw [Bool.and_eq_true] at hm'
  exact hm'.2
 obtain ⟨K, hK⟩ := empty_ev (SizeOf.sizeOf t.f3 + 1) t.f3 (Nat.lt_succ_self _) hm2
 refine ⟨K, ?_⟩
 unfold regex_Empty.f
 rw [may_is t.f3 h]
 have hm' : ((wtR t.f3 1 60).1 && mayR t.f3) = true := hm
 have hK2 : regex_empty.f K t.f3.f0 t.f3.f1 t.f3.f2 = some (emR t.f3) := hK K (Nat.le_refl K)
 rw [hm', Option.bind_some, if_pos rfl, hK2]
 rfl⟩
theorem ref_ok (t : Tok) (hs : t.f0.size ≤ 9223372036854775807) (h : okT t.f3 = true) (hz : sizeR t.f3 ≤ 200) : RefOk MT ET t :=
 ⟨hs, fun w0 W cs hB hK => rMay_any t.f3 (by omega) h w0 W cs hB hK, fun hm w0 W cs hB hK => remp6_any t.f3 w0 W cs hB hK (by
  have hm' : ((wtR t.f3 1 60).1 && mayR t.f3) = true := hm
  rw [Bool.and_eq_true] at hm'
  exact hm'.2)⟩
theorem eqL_self {α : Type} (f : α → α → Bool) : ∀ l : List α, (∀ x, x ∈ l → f x x = true) → eqL f l l = true
 | [], _ => rfl
 | x :: l, h => by
  rw [eqL, h x (List.mem_cons_self ..), eqL_self f l (fun y hy => h y (List.mem_cons_of_mem _ hy))]
  rfl
theorem rg_self (l : List Rg) : eqL rgQ l l = true := eqL_self _ _ (fun x _ => by unfold rgQ; rw [beq_self_eq_true, beq_self_eq_true]; rfl)
theorem tx_self (l : List ByteArray) : eqL txQ l l = true := eqL_self _ _ (fun x _ => by unfold txQ; simp)
theorem re_self : ∀ (N : Nat) (x : RE), SizeOf.sizeOf x < N → sameRe x x = true
 | 0, x, h => absurd h (Nat.not_lt_zero _)
 | N + 1, ⟨a, s, l⟩, h => by
  rw [sameRe, beq_self_eq_true, rg_self, sameRl_eq, eqL_self _ _ (fun y hy => re_self N y (by
   have h1 := List.sizeOf_lt_of_mem hy
   simp at h
   omega))]
  rfl
theorem same_selfg (T : List Tok) (R : List Rul) : sameS T R T R = true := by
 unfold sameS
 rw [eqL_self sameTok T (fun x _ => by unfold sameTok; rw [beq_self_eq_true, beq_self_eq_true, beq_self_eq_true, re_self (SizeOf.sizeOf x.f3 + 1) x.f3 (Nat.lt_succ_self _)]; rfl)]
 rw [eqL_self sameRul R (fun x _ => by unfold sameRul; rw [beq_self_eq_true, beq_self_eq_true, eqL_self sameStp x.f2 (fun s _ => by unfold sameStp; rw [tx_self, same_self]; rfl)]; rfl)]
 rfl
set_option maxHeartbeats 40000000 in
set_option maxRecDepth 100000 in
theorem asks_any (T T' : List Tok) (R R' : List Rul) (A0 A1 B0 B1 : Option Addr) (c0 c1 d0 d1 : Nat) (s : ByteArray) (W : World) (hgT : ∀ t, t ∈ T → t.f0.size ≤ 9223372036854775807 ∧ okT t.f3 = true) (hs : s.size ≤ 9223372036854775807) (hA0 : kTok.C W A0 T.length T) (hA1 : kRul.C W A1 R.length R) (hB0 : kTok.C W B0 T'.length T') (hB1 : kRul.C W B1 R'.length R') (hO : OwnAt W) :
 Calls Tryz.prog 3 #[.agg #[.slice A0 T.length c0, .slice A1 R.length c1], .agg #[.slice B0 T'.length d0, .slice B1 R'.length d1], .string s] W fun e W' => e = .returned (.bool true) ∧ Below W.heap.size W W' := by
 have HGT := Aside0.mk hgT
 have HG : Aside0 (∀ w, Below W.heap.size W w → kTok.C w A0 T.length T ∧ kRul.C w A1 R.length R ∧ kTok.C w B0 T'.length T' ∧ kRul.C w B1 R'.length R' ∧ OwnAt w) := ⟨fun w h => ⟨Kd.C_below hA0 h, Kd.C_below hA1 h, Kd.C_below hB0 h, Kd.C_below hB1 h, Kd.C_below hO h⟩⟩
 clear hgT hA0 hA1 hB0 hB1 hO
 go_enter Tryz.func3, Tryz.ntmps3
 go_upto_region 1 with (fail)
 obtain ⟨wa, hwa⟩ : ∃ z, W.alloc (.cells #[.slice A0 T.length c0, .slice A1 R.length c1] 25) = z := ⟨_, rfl⟩
 obtain ⟨w1, hw1⟩ : ∃ z, wa.alloc (.cells #[.slice B0 T'.length d0, .slice B1 R'.length d1] 25) = z := ⟨_, rfl⟩
 obtain ⟨bg, hbg⟩ : ∃ z, W.heap.size = z := ⟨_, rfl⟩
 have hs1 : wa.heap.size = bg + 1 := by rw [← hwa, ← hbg]; simp
 have HBa : Below W.heap.size W wa := hwa ▸ below1 _ _
 have HBb : Below wa.heap.size wa w1 := hw1 ▸ below1 _ _
 have HB0 : Aside0 (Below W.heap.size W w1) := ⟨join_below HBa HBb⟩
 have HKX : Aside0 (w1.heap[bg]? = some (.cells #[.slice A0 T.length c0, .slice A1 R.length c1] 25 (0, 0))) := ⟨blk_below (by rw [← hwa, ← hbg]; exact blk_new _ _) HBb⟩
 have HKY : Aside0 (w1.heap[bg + 1]? = some (.cells #[.slice B0 T'.length d0, .slice B1 R'.length d1] 25 (0, 0))) := ⟨by rw [← hs1, ← hw1]; exact blk_new _ _⟩
 rw [hwa, hw1, hbg]
 clear hwa hw1 hs1 HBa HBb hbg
 have HX : Aside0 (∀ w, Below w1.heap.size w1 w → Below W.heap.size W w ∧ w.cell? ⟨bg, 0, none⟩ = some (.slice A0 T.length c0) ∧ w.cell? ⟨bg, 1, none⟩ = some (.slice A1 R.length c1) ∧ w.cell? ⟨bg + 1, 0, none⟩ = some (.slice B0 T'.length d0) ∧ w.cell? ⟨bg + 1, 1, none⟩ = some (.slice B1 R'.length d1)) := ⟨fun w h => ⟨join_below HB0.out h, (blk_cell (blk_below HKX.out h) 0).trans rfl, (blk_cell (blk_below HKX.out h) 1).trans rfl, (blk_cell (blk_below HKY.out h) 0).trans rfl, (blk_cell (blk_below HKY.out h) 1).trans rfl⟩⟩
 obtain ⟨_, x0, x1, y0, y1⟩ := HX.out w1 (Below.refl _ _)
 have hg := HG.out w1 HB0.out
 go_wp2_with fail
 refine (fewg_any T R A0 A1 c0 c1 w1 hg.1 hg.2.1).mono ?_
 rintro e w2 ⟨b1, rfl, hf1, hb⟩
 have HB2 := Aside0.mk hb
 have HF1 := Aside0.mk hf1
 clear hb hf1 hg x0 x1 y0 y1
 cases b1
 case false =>
  go_wp2_with fail
  refine (told_any chk_none chk_made chk_twice _ (HG.out _ (HX.out _ HB2.out).1).2.2.2.2).mono ?_
  rintro e wz ⟨rfl, hb⟩
  have HBZ := Aside0.mk (join_below HB2.out hb)
  clear hb
  go_wp2
  go_ret
  exact ⟨rfl, (HX.out _ HBZ.out).1⟩
 obtain ⟨_, x0, x1, y0, y1⟩ := HX.out w2 HB2.out
 have hg := HG.out w2 (HX.out w2 HB2.out).1
 go_wp2_with fail
 refine (fewg_any T' R' B0 B1 d0 d1 w2 hg.2.2.1 hg.2.2.2.1).mono ?_
 rintro e w3 ⟨b2, rfl, _, hb⟩
 have HB3 := Aside0.mk (join_below HB2.out hb)
 clear hb hg x0 x1 y0 y1
 cases b2
 case false =>
  go_wp2_with fail
  refine (told_any chk_none chk_made chk_twice _ (HG.out _ (HX.out _ HB3.out).1).2.2.2.2).mono ?_
  rintro e wz ⟨rfl, hb⟩
  have HBZ := Aside0.mk (join_below HB3.out hb)
  clear hb
  go_wp2
  go_ret
  exact ⟨rfl, (HX.out _ HBZ.out).1⟩
 by_cases h100 : 100 < s.size
 case pos =>
  have d1 : decide (100 < s.size) = true := decide_eq_true h100
  have d1z : decide (100 < (s.size : Int)) = true := decide_eq_true (by omega)
  go_wp2_with fail
  refine (told_any chk_none chk_made chk_twice _ (HG.out _ (HX.out _ HB3.out).1).2.2.2.2).mono ?_
  rintro e wz ⟨rfl, hb⟩
  have HBZ := Aside0.mk (join_below HB3.out hb)
  clear hb
  go_wp2
  go_ret
  exact ⟨rfl, (HX.out _ HBZ.out).1⟩
 have d1 : decide (100 < s.size) = false := decide_eq_false h100
 have d1z : decide (100 < (s.size : Int)) = false := decide_eq_false (by omega)
 have HTO : Aside0 (∀ t, t ∈ T → TokOk MT ET t) := ⟨fun t ht => tok_ok t (HGT.out t ht).1 (HGT.out t ht).2⟩
 have HRO : Aside0 (∀ t, t ∈ T → RefOk MT ET t) := ⟨fun t ht => ref_ok t (HGT.out t ht).1 (HGT.out t ht).2 ((HF1.out (by first | rfl | trivial)).1 t ht).1⟩
 have HSO : Aside0 (∀ t, t ∈ T → setOk t.f3) := ⟨fun t ht => ((HF1.out (by first | rfl | trivial)).1 t ht).2⟩
 have HSZ : Aside0 (∀ r, r ∈ R → ∀ u, u ∈ r.f2 → sizeP u.f1 ≤ 1000) := ⟨fun r hr u hu => Nat.le_trans ((HF1.out (by first | rfl | trivial)).2 r hr u hu) (by omega)⟩
 obtain ⟨cc, hcc⟩ : ∃ z, codeOf (checkS MT ET T R) = z := ⟨_, rfl⟩
 have HCC := Aside0.mk hcc
 obtain ⟨x0, x1, _, _⟩ := (HX.out w3 HB3.out).2
 have hg := HG.out w3 (HX.out w3 HB3.out).1
 clear h100 hcc
 go_wp2_with fail
 refine (check_any MT ET T R HTO.out A0 c0 A1 c1 w3 hg.1 hg.2.1 hg.2.2.2.2).mono ?_
 rw [HCC.out]
 rintro e w4 ⟨rfl, hb⟩
 have HB4 := Aside0.mk (join_below HB3.out hb)
 clear hb hg x0 x1 d1 d1z
 obtain ⟨x0, x1, _, _⟩ := (HX.out w4 HB4.out).2
 have hg := HG.out w4 (HX.out w4 HB4.out).1
 go_wp2_with fail
 refine (rcheck_any MT ET T R HRO.out HSZ.out A0 c0 A1 c1 w4 hg.1 hg.2.1).mono ?_
 rw [HCC.out]
 rintro e w5 ⟨rfl, hb⟩
 have HB5 := Aside0.mk (join_below HB4.out hb)
 clear hb hg x0 x1
 have HCH : Aside0 (ChkC T R cc.1 cc.2) := ⟨fun AT ct AR cr w h1 h2 h3 => by
  refine (check_any MT ET T R HTO.out AT ct AR cr w h1 h2 h3).mono ?_
  rw [HCC.out]
  rintro e w' ⟨rfl, hb⟩
  exact ⟨rfl, hb⟩⟩
 obtain ⟨c, n⟩ := cc
 have hc1 : (c == c) = true := beq_self_eq_true _
 have hn1 : (n == n) = true := beq_self_eq_true _
 go_upto_region 5 with (fail)
 obtain ⟨wd, hwd⟩ : ∃ x, w5.drew = x := ⟨_, rfl⟩
 have HLW : Aside0 (Below w5.heap.size w5 wd) := ⟨hwd ▸ below_drew1 (Below.refl _ _)⟩
 have HP : Aside0 (∀ w, Below w5.heap.size w5 w → Below w1.heap.size w1 w) := ⟨fun w h => join_below HB5.out h⟩
 have x0 : ∀ p : Later w5, p.wx.cell? ⟨bg, 0, none⟩ = some (.slice A0 T.length c0) := fun p => (HX.out _ (HP.out _ p.below)).2.1
 have x1 : ∀ p : Later w5, p.wx.cell? ⟨bg, 1, none⟩ = some (.slice A1 R.length c1) := fun p => (HX.out _ (HP.out _ p.below)).2.2.1
 have y0 : ∀ p : Later w5, p.wx.cell? ⟨bg + 1, 0, none⟩ = some (.slice B0 T'.length d0) := fun p => (HX.out _ (HP.out _ p.below)).2.2.2.1
 have y1 : ∀ p : Later w5, p.wx.cell? ⟨bg + 1, 1, none⟩ = some (.slice B1 R'.length d1) := fun p => (HX.out _ (HP.out _ p.below)).2.2.2.2
 refine wp_region_held (S := fun w' => ∃ p : Later w5, w' = p.wx) (by kernel_rfl) ?_
 change wpAnyH _ _ _ _ _ _ _ _ (World.drew _)
 rw [hwd]
 clear hwd
 refine hall1 (i := 0) (by kernel_rfl) (by rfl) (fun K hK => ?_)
 go_simp
 have hw := (HX.out _ (HP.out _ HLW.out)).1
 have hg := HG.out _ hw
 refine (told_any chk_none chk_made chk_twice _ hg.2.2.2.2).mono ?_
 rintro e u1 ⟨rfl, hb⟩
 have HLW := Aside0.mk (join_below HLW.out hb)
 clear hb hg hw
 refine hK _ _ ⟨⟨_, HLW.out⟩, rfl⟩ ?_
 clear hK K
 iterate 8 ((first | refine takeR (i := 1) (by decide +kernel) (by rfl) ?_ ?_ ?_ | refine takeR (i := 2) (by decide +kernel) (by rfl) ?_ ?_ ?_ | refine takeR (i := 3) (by decide +kernel) (by rfl) ?_ ?_ ?_ | refine takeR (i := 4) (by decide +kernel) (by rfl) ?_ ?_ ?_ | refine takeR (i := 5) (by decide +kernel) (by rfl) ?_ ?_ ?_ | refine takeR (i := 6) (by decide +kernel) (by rfl) ?_ ?_ ?_ | refine takeR (i := 7) (by decide +kernel) (by rfl) ?_ ?_ ?_ | refine takeR (i := 8) (by decide +kernel) (by rfl) ?_ ?_ ?_); (focus first | exact fun _ _ _ _ h => h | exact fun _ _ _ _ h => HPQ.out _ _ _ _ (by rfl) h); (focus exact ⟨⟨_, HLW.out⟩, rfl⟩); intro K hK; go_simp; (with_reducible refine hK _ ?_); clear hK K)
 iterate 6 ((first | refine takeR (i := 9) (by decide +kernel) (by rfl) ?_ ?_ ?_ | refine takeR (i := 10) (by decide +kernel) (by rfl) ?_ ?_ ?_ | refine takeR (i := 11) (by decide +kernel) (by rfl) ?_ ?_ ?_ | refine takeR (i := 12) (by decide +kernel) (by rfl) ?_ ?_ ?_ | refine takeR (i := 14) (by decide +kernel) (by rfl) ?_ ?_ ?_ | refine takeR (i := 15) (by decide +kernel) (by rfl) ?_ ?_ ?_); (focus first | exact fun _ _ _ _ h => h | exact fun _ _ _ _ h => HPQ.out _ _ _ _ (by rfl) h); (focus exact ⟨⟨_, HLW.out⟩, rfl⟩); intro K hK; go_simp; (with_reducible refine hK _ ?_); clear hK K)
 refine hall1 (i := 13) (by kernel_rfl) (by rfl) (fun K hK => ?_)
 go_simp
 have hw := (HX.out _ (HP.out _ HLW.out)).1
 have hg := HG.out _ hw
 refine (gmay_any T R c n HCH.out A0 c0 A1 c1 _ hg.1 hg.2.1 hg.2.2.2.2).mono ?_
 rintro e u2 ⟨rfl, hb⟩
 have HLW := Aside0.mk (join_below HLW.out hb)
 clear hb hg hw
 refine hK _ _ ⟨⟨_, HLW.out⟩, rfl⟩ ?_
 clear hK K
 have hcb : ((c == 0) == (c == 0)) = true := beq_self_eq_true _
 iterate 7 ((first | refine takeR (i := 16) (by decide +kernel) (by rfl) ?_ ?_ ?_ | refine takeR (i := 17) (by decide +kernel) (by rfl) ?_ ?_ ?_ | refine takeR (i := 18) (by decide +kernel) (by rfl) ?_ ?_ ?_ | refine takeR (i := 19) (by decide +kernel) (by rfl) ?_ ?_ ?_ | refine takeR (i := 20) (by decide +kernel) (by rfl) ?_ ?_ ?_ | refine takeR (i := 22) (by decide +kernel) (by rfl) ?_ ?_ ?_ | refine takeR (i := 23) (by decide +kernel) (by rfl) ?_ ?_ ?_); (focus first | exact fun _ _ _ _ h => h | exact fun _ _ _ _ h => HPQ.out _ _ _ _ (by rfl) h); (focus exact ⟨⟨_, HLW.out⟩, rfl⟩); intro K hK; go_simp; (with_reducible refine hK _ ?_); clear hK K)
 refine hall1 (i := 21) (by kernel_rfl) (by rfl) (fun K hK => ?_)
 go_simp
 have hw := (HX.out _ (HP.out _ HLW.out)).1
 have hg := HG.out _ hw
 refine (same_any T T' R R' A0 A1 B0 B1 c0 c1 d0 d1 _ hg.1 hg.2.1 hg.2.2.1 hg.2.2.2.1).mono ?_
 rintro e u3 ⟨rfl, hb⟩
 have HLW := Aside0.mk (join_below HLW.out hb)
 clear hb hg hw
 refine hK _ _ ⟨⟨_, HLW.out⟩, rfl⟩ ?_
 clear hK K
 refine hall1 (i := 24) (by kernel_rfl) (by rfl) (fun K hK => ?_)
 go_simp
 have hw := (HX.out _ (HP.out _ HLW.out)).1
 have hg := HG.out _ hw
 refine (rsameg_any T T' R R' A0 A1 B0 B1 c0 c1 d0 d1 _ HSO.out hg.1 hg.2.1 hg.2.2.1 hg.2.2.2.1).mono ?_
 rintro e u4 ⟨rfl, hb⟩
 have HLW := Aside0.mk (join_below HLW.out hb)
 clear hb hg hw
 refine hK _ _ ⟨⟨_, HLW.out⟩, rfl⟩ ?_
 clear hK K
 have hsb : (sameS T R T' R' == sameS T R T' R') = true := beq_self_eq_true _
 iterate 5 ((first | refine takeR (i := 25) (by decide +kernel) (by rfl) ?_ ?_ ?_ | refine takeR (i := 26) (by decide +kernel) (by rfl) ?_ ?_ ?_ | refine takeR (i := 27) (by decide +kernel) (by rfl) ?_ ?_ ?_ | refine takeR (i := 28) (by decide +kernel) (by rfl) ?_ ?_ ?_ | refine takeR (i := 30) (by decide +kernel) (by rfl) ?_ ?_ ?_); (focus first | exact fun _ _ _ _ h => h | exact fun _ _ _ _ h => HPQ.out _ _ _ _ (by rfl) h); (focus exact ⟨⟨_, HLW.out⟩, rfl⟩); intro K hK; go_simp; (with_reducible refine hK _ ?_); clear hK K)
 refine hall1 (i := 29) (by kernel_rfl) (by rfl) (fun K hK => ?_)
 go_simp
 have hw := (HX.out _ (HP.out _ HLW.out)).1
 have hg := HG.out _ hw
 refine (name_any s hs _ hg.2.2.2.2).mono ?_
 rintro e u5 ⟨rfl, hb⟩
 have HLW := Aside0.mk (join_below HLW.out hb)
 clear hb hg hw
 refine hK _ _ ⟨⟨_, HLW.out⟩, rfl⟩ ?_
 clear hK K
 refine hall1 (i := 31) (by kernel_rfl) (by rfl) (fun K hK => ?_)
 go_simp
 have hw := (HX.out _ (HP.out _ HLW.out)).1
 have hg := HG.out _ hw
 refine (rname_any s hs _).mono ?_
 rintro e u6 ⟨rfl, hb⟩
 have HLW := Aside0.mk (join_below HLW.out hb)
 clear hb hg hw
 refine hK _ _ ⟨⟨_, HLW.out⟩, rfl⟩ ?_
 clear hK K
 have hnb : (nameS s == nameS s) = true := beq_self_eq_true _
 iterate 7 ((first | refine takeR (i := 32) (by decide +kernel) (by rfl) ?_ ?_ ?_ | refine takeR (i := 33) (by decide +kernel) (by rfl) ?_ ?_ ?_ | refine takeR (i := 34) (by decide +kernel) (by rfl) ?_ ?_ ?_ | refine takeR (i := 35) (by decide +kernel) (by rfl) ?_ ?_ ?_ | refine takeR (i := 36) (by decide +kernel) (by rfl) ?_ ?_ ?_ | refine takeR (i := 38) (by decide +kernel) (by rfl) ?_ ?_ ?_ | refine takeR (i := 39) (by decide +kernel) (by rfl) ?_ ?_ ?_); (focus first | exact fun _ _ _ _ h => h | exact fun _ _ _ _ h => HPQ.out _ _ _ _ (by rfl) h); (focus exact ⟨⟨_, HLW.out⟩, rfl⟩); intro K hK; go_simp; (with_reducible refine hK _ ?_); clear hK K)
 refine hall1 (i := 37) (by kernel_rfl) (by rfl) (fun K hK => ?_)
 go_simp
 have hw := (HX.out _ (HP.out _ HLW.out)).1
 have hg := HG.out _ hw
 refine (find_any T A0 A1 c0 c1 R.length s _ hg.1).mono ?_
 rintro e u7 ⟨rfl, hb⟩
 have HLW := Aside0.mk (join_below HLW.out hb)
 clear hb hg hw
 refine hK _ _ ⟨⟨_, HLW.out⟩, rfl⟩ ?_
 clear hK K
 refine hall1 (i := 40) (by kernel_rfl) (by rfl) (fun K hK => ?_)
 go_simp
 have hw := (HX.out _ (HP.out _ HLW.out)).1
 have hg := HG.out _ hw
 refine (rfind_any T A0 A1 c0 c1 R.length s _ hg.1).mono ?_
 rintro e u8 ⟨rfl, hb⟩
 have HLW := Aside0.mk (join_below HLW.out hb)
 clear hb hg hw
 refine hK _ _ ⟨⟨_, HLW.out⟩, rfl⟩ ?_
 clear hK K
 have hfb : (findS T s 0 == findS T s 0) = true := beq_self_eq_true _
 iterate 5 ((first | refine takeR (i := 41) (by decide +kernel) (by rfl) ?_ ?_ ?_ | refine takeR (i := 42) (by decide +kernel) (by rfl) ?_ ?_ ?_ | refine takeR (i := 43) (by decide +kernel) (by rfl) ?_ ?_ ?_ | refine takeR (i := 44) (by decide +kernel) (by rfl) ?_ ?_ ?_ | refine takeR (i := 45) (by decide +kernel) (by rfl) ?_ ?_ ?_); (focus first | exact fun _ _ _ _ h => h | exact fun _ _ _ _ h => HPQ.out _ _ _ _ (by rfl) h); (focus exact ⟨⟨_, HLW.out⟩, rfl⟩); intro K hK; go_simp; (with_reducible refine hK _ ?_); clear hK K)
 refine hall1 (i := 46) (by kernel_rfl) (by rfl) (fun K hK => ?_)
 go_simp
 have hw := (HX.out _ (HP.out _ HLW.out)).1
 have hg := HG.out _ hw
 refine (same_any T T R R A0 A1 A0 A1 c0 c1 c0 c1 _ hg.1 hg.2.1 hg.1 hg.2.1).mono ?_
 rintro e u9 ⟨rfl, hb⟩
 have HLW := Aside0.mk (join_below HLW.out hb)
 clear hb hg hw
 refine hK _ _ ⟨⟨_, HLW.out⟩, rfl⟩ ?_
 clear hK K
 rw [same_selfg]
 iterate 2 ((first | refine takeR (i := 47) (by decide +kernel) (by rfl) ?_ ?_ ?_ | refine takeR (i := 48) (by decide +kernel) (by rfl) ?_ ?_ ?_); (focus first | exact fun _ _ _ _ h => h | exact fun _ _ _ _ h => HPQ.out _ _ _ _ (by rfl) h); (focus exact ⟨⟨_, HLW.out⟩, rfl⟩); intro K hK; go_simp; (with_reducible refine hK _ ?_); clear hK K)
 refine wpAnyH_done (by kernel_rfl) ?_ _
 clear x0 x1 y0 y1
 go_wp2
 go_ret
 exact ⟨by simp, (HX.out _ (HP.out _ HLW.out)).1⟩
end Go.Proofs.YthdfmbmbjpmlaaaGreatDoor.Rn
end
section
set_option linter.unusedVariables false
set_option linter.unusedSimpArgs false
namespace Go.Proofs.YthdfmbmbjpmlaaaGreatDoor.Op
open Go Go.RowKit Go.Proofs.YthdfmbmbjpmlaaaGreatDoorW.PrintWords Go.ChangeShapes Go.WideShapes Go.Deep
def At {α : Type} (P : Program) (fuel : Nat) (t : TypeId) (k : Kd α) (good : α → Prop) : Prop :=
 ∀ (H : Type) (enc : TypeId × Value → H) (W : World) (cs : List Value) (x : DataW H × List MemPlace), DataW.trod enc P W 0 (fun _ => true) true fuel t cs = some x → ∃ v : α, k.K W v cs ∧ good v
def Upto {α : Type} (P : Program) (fuel : Nat) (t : TypeId) (k : Kd α) (good : α → Prop) : Prop := ∀ n, n < fuel → At P n t k good
def All {α : Type} (P : Program) (t : TypeId) (k : Kd α) (good : α → Prop) : Prop := ∀ fuel, Upto P fuel t k good
theorem All.at {α : Type} {P : Program} {t : TypeId} {k : Kd α} {good : α → Prop} (h : All P t k good) (n : Nat) : At P n t k good := h (n + 1) n (Nat.lt_succ_self n)
theorem Upto.le {α : Type} {P : Program} {t : TypeId} {k : Kd α} {good : α → Prop} {n m : Nat} (h : Upto P n t k good) (hm : m ≤ n) : Upto P m t k good := fun i hi => h i (Nat.lt_of_lt_of_le hi hm)
theorem Upto.mono {α : Type} {P : Program} {t : TypeId} {k : Kd α} {good good' : α → Prop} {n : Nat} (h : Upto P n t k good) (hg : ∀ v, good v → good' v) : Upto P n t k good' := fun i hi H enc W cs x hx => by
 obtain ⟨v, h1, h2⟩ := h i hi H enc W cs x hx
 exact ⟨v, h1, hg v h2⟩
theorem All.rec_ {α : Type} {P : Program} {t : TypeId} {k : Kd α} {good : α → Prop} (h : ∀ n, Upto P n t k good → At P n t k good) : All P t k good := by
 intro fuel
 induction fuel with
 | zero => intro n hn; exact absurd hn (Nat.not_lt_zero n)
 | succ m ih =>
  intro n hn
  by_cases c : n = m
  · rw [c]; exact h m ih
  · exact ih n (by omega)
section
variable {P : Program} {n : Nat} {t : TypeId}
theorem int_ {k : IntKind} (ht : P.underlying t = some (.int k)) : At P n t (Kd.int k) (fun a => (Lit.int k a).wf = true) := fun H enc W cs x h => by
 obtain ⟨a, rfl, _, hw⟩ := DataW.trod_int ht h
 exact ⟨a, rfl, hw⟩
theorem bool_ (ht : P.underlying t = some .bool) : At P n t Kd.bool (fun _ => True) := fun H enc W cs x h => by
 obtain ⟨b, rfl, _⟩ := DataW.trod_bool ht h
 exact ⟨b, rfl, trivial⟩
theorem string_ (ht : P.underlying t = some .string) : At P n t Kd.string (fun s => s.size ≤ maxLen) := fun H enc W cs x h => by
 obtain ⟨s, rfl, _, hs⟩ := DataW.trod_string ht h
 exact ⟨s, rfl, hs⟩
theorem list_of {α : Type} {len : Nat} {p : Nat → α → Prop} (h : ∀ i, i < len → ∃ v, p i v) : ∃ vs : List α, vs.length = len ∧ ∀ i v, vs[i]? = some v → p i v := by
 induction len with
 | zero => exact ⟨[], rfl, fun i v hv => by simp at hv⟩
 | succ m ih =>
  obtain ⟨vs, hl, hv⟩ := ih (fun i hi => h i (Nat.lt_succ_of_lt hi))
  obtain ⟨v, hp⟩ := h m (Nat.lt_succ_self m)
  refine ⟨vs ++ [v], by simp [hl], fun i u hu => ?_⟩
  by_cases c : i < vs.length
  · rw [List.getElem?_append_left c] at hu
    exact hv i u hu
  · rw [List.getElem?_append_right (by omega)] at hu
    obtain ⟨j, hj⟩ : ∃ j, i - vs.length = j := ⟨_, rfl⟩
    rw [hj] at hu
    cases j with
    | zero =>
     obtain rfl : v = u := by simpa using hu
     rw [show i = m by omega]
     exact hp
    | succ j => simp at hu
theorem slice_cells {α : Type} {e : TypeId} {k : Kd α} {good : α → Prop} (ht : P.underlying t = some (.slice e)) (hs : P.cellsOf e = k.sz) (he : Upto P n e k good) {H : Type} {enc : TypeId × Value → H} {W : World} {cs : List Value} {x : DataW H × List MemPlace} (h : DataW.trod enc P W 0 (fun _ => true) true n t cs = some x) :
 ∃ (vs : List α) (A : Option Addr) (c : Nat), cs = [.slice A vs.length c] ∧ vs.length ≤ c ∧ c ≤ maxLen ∧ k.C W A vs.length vs ∧ ∀ v, v ∈ vs → good v := by
 rcases DataW.trod_slice ht h with ⟨rfl, _⟩ | ⟨a, len, cap, elems, rest, m, rfl, rfl, _, _, hl, hm, hlen, hel, _, _⟩
 · exact ⟨[], none, 0, rfl, Nat.le_refl _, by unfold maxLen; omega, ⟨rfl, by simp, fun h0 => absurd h0 (by simp)⟩, fun v hv => by cases hv⟩
 · have each : ∀ i, i < len → ∃ v, good v ∧ ∃ c, c.length = k.sz ∧ k.K W v c ∧ ∀ j u, c[j]? = some u → W.cell? (a.add (i * k.sz + j)) = some u := fun i hi => by
    have hi2 := hel i hi
    rw [List.getElem?_eq_getElem (by omega)] at hi2
    obtain ⟨c, h1, h2⟩ := Option.bind_eq_some_iff.1 hi2
    obtain ⟨v, hk, hg⟩ := he m (Nat.lt_succ_self m) H enc W c _ h2
    obtain ⟨_, hcl, hcc⟩ := World.cells?_some h1
    rw [hs] at hcc
    refine ⟨v, hg, c, k.K_len hk, hk, fun j u hu => ?_⟩
    have hj : j < c.length := (List.getElem?_eq_some_iff.1 hu).1
    have h4 := hcc j (by rw [k.K_len hk] at hj; exact hj)
    rw [Go.Deep.add_add] at h4
    rw [h4]
    exact hu
   obtain ⟨vs, hvl, hvs⟩ := list_of each
   have hm' : cap ≤ 9223372036854775807 := hm
   refine ⟨vs, some a, cap, by rw [hvl], by omega, hm, ⟨rfl, by omega, fun h0 => ⟨a, rfl, fun j p hj => ?_⟩⟩, fun v hv => ?_⟩
   · obtain ⟨_, c, h1, h2, h3⟩ := hvs j p hj
     exact ⟨c, h1, h2, h3⟩
   · obtain ⟨i, hi, rfl⟩ := List.getElem_of_mem hv
     exact (hvs i _ (List.getElem?_eq_getElem hi)).1
theorem slice_ {α : Type} {e : TypeId} {k : Kd α} {good : α → Prop} (q : Nat) (ht : P.underlying t = some (.slice e)) (hs : P.cellsOf e = k.sz) (he : Upto P n e k good) : At P n t (Kd.slice q k) (fun vs => ∀ v, v ∈ vs → good v) := fun H enc W cs x h => by
 obtain ⟨vs, A, c, rfl, hl, _, hc, hg⟩ := slice_cells ht hs he h
 exact ⟨vs, ⟨A, c, rfl, hl, hc⟩, hg⟩
def Flds {α : Type} (P : Program) (n : Nat) (fs : List Field) (off : Nat) (k : Kd α) (good : α → Prop) : Prop :=
 ∀ (H : Type) (enc : TypeId × Value → H) (W : World) (cs : List Value) (ds : List (DataW H × List MemPlace)),
  (∀ (i : Nat) (f : Field), fs[i]? = some f → DataW.trod enc P W 0 (fun _ => true) true n f.type ((cs.drop (f.offset - off)).take (P.cellsOf f.type)) = ds[i]?) → ds.length = fs.length → cs.length = k.sz → ∃ v : α, k.K W v cs ∧ good v
theorem flds_one {α : Type} {f : Field} {off : Nat} {k : Kd α} {good : α → Prop} (ho : f.offset = off) (hs : P.cellsOf f.type = k.sz) (h : At P n f.type k good) : Flds P n [f] off k good := fun H enc W cs ds hf hl hc => by
 match ds, hl with
 | [d], _ =>
  have h0 := hf 0 f rfl
  rw [ho, Nat.sub_self, hs, List.drop_zero, List.take_of_length_le (by omega)] at h0
  exact h H enc W cs d h0
theorem flds_cons {α β : Type} {f : Field} {fs : List Field} {off off' : Nat} {a : Kd α} {b : Kd β} {ga : α → Prop} {gb : β → Prop} (ho : f.offset = off) (hs : P.cellsOf f.type = a.sz) (ho' : off' = off + a.sz) (hge : ∀ g, g ∈ fs → off' ≤ g.offset)
 (h : At P n f.type a ga) (h' : Flds P n fs off' b gb) : Flds P n (f :: fs) off (Kd.pair a b) (fun x => ga x.1 ∧ gb x.2) := fun H enc W cs ds hf hl hc => by
 match ds, hl with
 | d :: ds, hl =>
  have hc' : cs.length = a.sz + b.sz := hc
  have h0 := hf 0 f rfl
  rw [ho, Nat.sub_self, hs, List.drop_zero] at h0
  obtain ⟨x, hx, gx⟩ := h H enc W _ d h0
  obtain ⟨y, hy, gy⟩ := h' H enc W (cs.drop a.sz) ds (fun i g hg => by
   have h1 := hf (i + 1) g hg
   have h2 := hge g (List.mem_of_getElem? hg)
   rw [List.drop_drop]
   rw [show a.sz + (g.offset - off') = g.offset - off by omega]
   exact h1) (by simpa using hl) (by rw [List.length_drop]; omega)
  exact ⟨(x, y), ⟨_, _, (List.take_append_drop a.sz cs).symm, hx, hy⟩, gx, gy⟩
theorem struct_ {α β : Type} {fs : List Field} {k : Kd α} {good : α → Prop} {g : β → α} (gi : α → β) (hg : ∀ x, g (gi x) = x) (ht : P.underlying t = some (.struct fs.toArray)) (hs : P.cellsOf t = k.sz)
 (h : ∀ m, m < n → Flds P m fs 0 k good) : At P n t (Kd.iso k g) (fun v => good (g v)) := fun H enc W cs x hx => by
 obtain ⟨xs, m, rfl, _, hcl, hxl, hf⟩ := DataW.trod_struct ht hx
 obtain ⟨v, hv, hgv⟩ := h m (Nat.lt_succ_self m) H enc W cs xs (fun i f hi => by
  rw [Nat.sub_zero]
  exact hf i f (by simpa using hi)) (by simpa using hxl) (by rw [hcl, hs])
 exact ⟨gi v, by show k.K W (g (gi v)) cs; rw [hg]; exact hv, by show good (g (gi v)); rw [hg]; exact hgv⟩
end
end Go.Proofs.YthdfmbmbjpmlaaaGreatDoor.Op
end
section
set_option linter.unusedVariables false
set_option linter.unusedSimpArgs false
namespace Go.Proofs.YthdfmbmbjpmlaaaGreatDoor.Rn
open Go Go.RowKit Go.Proofs.YthdfmbmbjpmlaaaGreatDoorW.PrintWords Go.Proofs.YthdfmbmbjpmlaaaGreatDoorW.PrintLast Go.Proofs.YthdfmbmbjpmlaaaGreatDoorW.PrintMore
set_option maxRecDepth 100000
def rgGood (x : Rg) : Prop := rgOk [x] = true
theorem rg_bounds {a : Int} (h : (Lit.int .i32 a).wf = true) : -2147483648 ≤ a ∧ a < 2147483648 := by
 simp [Lit.wf, IntKind.min, IntKind.max, IntKind.signed, IntKind.bits] at h
 omega
theorem open_rg : Op.All Tryz.prog 80 k80 rgGood := fun _ n _ H enc W cs x hx => by
 obtain ⟨v, h1, h2⟩ := Op.struct_ (P := Tryz.prog) (n := n) (k := Kd.pair (Kd.int .i32) (Kd.int .i32)) (g := fun x : Rg => (x.f0, x.f1)) (fun x => ⟨x.1, x.2⟩) (fun _ => rfl) (Tryz.underlying80) (by kernel_rfl)
  (fun m _ => Op.flds_cons (off' := 1) rfl (by kernel_rfl) rfl (by intro g hg; simp at hg; subst hg; decide) (Op.int_ Tryz.underlying21) (Op.flds_one rfl (by kernel_rfl) (Op.int_ Tryz.underlying21))) H enc W cs x hx
 refine ⟨v, h1, ?_⟩
 obtain ⟨w0, w1⟩ := h2
 have b0 := rg_bounds w0
 have b1 := rg_bounds w1
 simp [rgGood, rgOk]
 omega
theorem rg_all {l : List Rg} (h : ∀ x, x ∈ l → rgGood x) : rgOk l = true := by
 unfold rgOk
 rw [List.all_eq_true]
 intro x hx
 have := h x hx
 unfold rgGood rgOk at this
 rw [List.all_eq_true] at this
 exact this x (List.mem_singleton.2 rfl)
theorem okL_all {l : List Re} (h : ∀ x, x ∈ l → okT x = true) : okL l = true := by
 induction l with
 | nil => rfl
 | cons y l ih =>
  rw [okL, h y (List.mem_cons_self ..), ih (fun x hx => h x (List.mem_cons_of_mem _ hx))]
  rfl
theorem open_re : Op.All Tryz.prog 38 kRe (fun x => okT x = true) := Op.All.rec_ (fun n ih H enc W cs x hx => by
 obtain ⟨v, h1, h2⟩ := Op.struct_ (P := Tryz.prog) (n := n) (k := Kd.pair (Kd.int .i64) (Kd.pair (Kd.slice 80 k80) (Kd.slice 38 kRe))) (g := fun x : Re => (x.f0, x.f1, x.f2)) (fun x => ⟨x.1, x.2.1, x.2.2⟩) (fun _ => rfl) (Tryz.underlying38) (by kernel_rfl)
  (fun m hm => Op.flds_cons (off' := 1) rfl (by kernel_rfl) rfl (by intro g hg; simp at hg; rcases hg with rfl | rfl <;> decide) (Op.int_ Tryz.underlying3)
   (Op.flds_cons (off' := 2) rfl (by kernel_rfl) rfl (by intro g hg; simp at hg; subst hg; decide) (Op.slice_ _ Tryz.underlying35 (by kernel_rfl) (open_rg m))
    (Op.flds_one rfl (by kernel_rfl) (Op.slice_ _ Tryz.underlying36 (by kernel_rfl) (ih.le (Nat.le_of_lt hm)))))) H enc W cs x hx
 obtain ⟨_, hs, hl⟩ := h2
 obtain ⟨_, _, rfl, rfl, ⟨_, _, rfl, ⟨A1, c1, rfl, l1, g1⟩, ⟨A2, c2, rfl, l2, g2⟩⟩⟩ := h1
 refine ⟨v, k38_mk W v l1 g1 l2 g2, ?_⟩
 obtain ⟨k, s, l⟩ := v
 show okT ⟨k, s, l⟩ = true
 rw [okT, rg_all hs, okL_all hl]
 rfl)
def tokGood (t : Tok) : Prop := t.f0.size ≤ maxLen ∧ okT t.f3 = true
theorem open_tok : Op.All Tryz.prog 40 kTok tokGood := fun _ n _ H enc W cs x hx => by
 obtain ⟨v, h1, h2⟩ := Op.struct_ (P := Tryz.prog) (n := n) (k := Kd.pair Kd.string (Kd.pair (Kd.int .i64) (Kd.pair (Kd.int .i64) kRe))) (g := fun x : Tok => (x.f0, x.f1, x.f2, x.f3)) (fun x => ⟨x.1, x.2.1, x.2.2.1, x.2.2.2⟩) (fun _ => rfl) (Tryz.underlying40) (by kernel_rfl)
  (fun m _ => Op.flds_cons (off' := 1) rfl (by kernel_rfl) rfl (by intro g hg; simp at hg; rcases hg with rfl | rfl | rfl <;> decide) (Op.string_ Tryz.underlying9)
   (Op.flds_cons (off' := 2) rfl (by kernel_rfl) rfl (by intro g hg; simp at hg; rcases hg with rfl | rfl <;> decide) (Op.int_ Tryz.underlying3)
    (Op.flds_cons (off' := 3) rfl (by kernel_rfl) rfl (by intro g hg; simp at hg; subst hg; decide) (Op.int_ Tryz.underlying3)
     (Op.flds_one rfl (by kernel_rfl) (open_re.at m))))) H enc W cs x hx
 exact ⟨v, h1, h2.1, h2.2.2.2⟩
theorem open_names (n : Nat) : Op.At Tryz.prog n 44 (Kd.slice 9 Kd.string) (fun _ => True) := fun H enc W cs x hx => by
 obtain ⟨v, h1, _⟩ := Op.slice_ 9 Tryz.underlying44 (by kernel_rfl) (fun m _ => Op.string_ Tryz.underlying9) H enc W cs x hx
 exact ⟨v, h1, trivial⟩
theorem open_pat : Op.All Tryz.prog 47 k47 (fun _ => True) := Op.All.rec_ (fun n ih H enc W cs x hx => by
 obtain ⟨v, h1, h2⟩ := Op.struct_ (P := Tryz.prog) (n := n) (k := Kd.pair (Kd.int .i64) (Kd.pair (Kd.slice 9 Kd.string) (Kd.pair (Kd.slice 9 Kd.string) (Kd.slice 47 k47)))) (g := fun x : S47 => (x.f0, x.f1, x.f2, x.f3)) (fun x => ⟨x.1, x.2.1, x.2.2.1, x.2.2.2⟩) (fun _ => rfl) (Tryz.underlying47) (by kernel_rfl)
  (fun m hm => Op.flds_cons (off' := 1) rfl (by kernel_rfl) rfl (by intro g hg; simp at hg; rcases hg with rfl | rfl | rfl <;> decide) (Op.int_ Tryz.underlying3)
   (Op.flds_cons (off' := 2) rfl (by kernel_rfl) rfl (by intro g hg; simp at hg; rcases hg with rfl | rfl <;> decide) (open_names m)
    (Op.flds_cons (off' := 3) rfl (by kernel_rfl) rfl (by intro g hg; simp at hg; subst hg; decide) (open_names m)
     (Op.flds_one rfl (by kernel_rfl) (Op.slice_ _ Tryz.underlying45 (by kernel_rfl) (ih.le (Nat.le_of_lt hm))))))) H enc W cs x hx
 obtain ⟨_, _, rfl, rfl, ⟨_, _, rfl, ⟨A1, c1, rfl, l1, g1⟩, ⟨_, _, rfl, ⟨A2, c2, rfl, l2, g2⟩, ⟨A3, c3, rfl, l3, g3⟩⟩⟩⟩ := h1
 exact ⟨v, k47_mk W v l1 g1 l2 g2 l3 g3, trivial⟩)
theorem open_step : Op.All Tryz.prog 49 k49 (fun _ => True) := fun _ n _ H enc W cs x hx => by
 obtain ⟨v, h1, _⟩ := Op.struct_ (P := Tryz.prog) (n := n) (k := Kd.pair (Kd.slice 9 Kd.string) k47) (g := fun x : S49 => (x.f0, x.f1)) (fun x => ⟨x.1, x.2⟩) (fun _ => rfl) (Tryz.underlying49) (by kernel_rfl)
  (fun m _ => Op.flds_cons (off' := 1) rfl (by kernel_rfl) rfl (by intro g hg; simp at hg; subst hg; decide) (open_names m) (Op.flds_one rfl (by kernel_rfl) (open_pat.at m))) H enc W cs x hx
 exact ⟨v, h1, trivial⟩
theorem open_rule : Op.All Tryz.prog 43 kRul (fun _ => True) := fun _ n _ H enc W cs x hx => by
 obtain ⟨v, h1, _⟩ := Op.struct_ (P := Tryz.prog) (n := n) (k := Kd.pair (Kd.int .i64) (Kd.pair Kd.bool (Kd.slice 49 k49))) (g := fun x : Rul => (x.f0, x.f1, x.f2)) (fun x => ⟨x.1, x.2.1, x.2.2⟩) (fun _ => rfl) (Tryz.underlying43) (by kernel_rfl)
  (fun m _ => Op.flds_cons (off' := 1) rfl (by kernel_rfl) rfl (by intro g hg; simp at hg; rcases hg with rfl | rfl <;> decide) (Op.int_ Tryz.underlying3)
   (Op.flds_cons (off' := 2) rfl (by kernel_rfl) rfl (by intro g hg; simp at hg; subst hg; decide) (Op.bool_ Tryz.underlying4)
    (Op.flds_one rfl (by kernel_rfl) (Op.slice_ _ Tryz.underlying41 (by kernel_rfl) (open_step m))))) H enc W cs x hx
 exact ⟨v, h1, trivial⟩
theorem open_gram {H : Type} {enc : TypeId × Value → H} {W : World} {n : Nat} {cs : List Value} {x : DataW H × List MemPlace} (hx : DataW.trod enc Tryz.prog W 0 (fun _ => true) true n 25 cs = some x) :
 ∃ (T : List Tok) (R : List Rul) (A0 A1 : Option Addr) (c0 c1 : Nat), cs = [.slice A0 T.length c0, .slice A1 R.length c1] ∧ kTok.C W A0 T.length T ∧ kRul.C W A1 R.length R ∧ ∀ t, t ∈ T → tokGood t := by
 obtain ⟨v, h1, h2⟩ := Op.struct_ (P := Tryz.prog) (n := n) (k := Kd.pair (Kd.slice 40 kTok) (Kd.slice 43 kRul)) (g := fun x : List Tok × List Rul => x) (fun x => x) (fun _ => rfl) (Tryz.underlying25) (by kernel_rfl)
  (fun m _ => Op.flds_cons (off' := 1) rfl (by kernel_rfl) rfl (by intro g hg; simp at hg; subst hg; decide) (Op.slice_ _ Tryz.underlying22 (by kernel_rfl) (open_tok m))
   (Op.flds_one rfl (by kernel_rfl) (Op.slice_ _ Tryz.underlying23 (by kernel_rfl) (open_rule m)))) H enc W cs x hx
 obtain ⟨_, _, rfl, ⟨A0, c0, rfl, l0, g0⟩, ⟨A1, c1, rfl, l1, g1⟩⟩ := h1
 exact ⟨v.1, v.2, A0, A1, c0, c1, rfl, g0, g1, h2.1⟩
end Go.Proofs.YthdfmbmbjpmlaaaGreatDoor.Rn
end
section
set_option linter.unusedVariables false
namespace Go.Proofs.YthdfmbmbjpmlaaaGreatDoor.Rn
open Go Go.RowKit Go.Shelf Go.Lib Go.Proofs.YthdfmbmbjpmlaaaGreatDoorW.PrintWords Go.ChangeShapes Go.WideShapes Go.ChangeAt
theorem own : ownKnob Tryz.prog.godebug = none := by kernel_rfl
theorem laidOut : laidOutB Tryz.prog = true := by kernel_rfl
theorem own_of {W : World} (h : VarReads Tryz.prog W "gobo/gram.own" Rows.laid_gobo_gram_own) : OwnAt W := by
 obtain ⟨g, t, cs, fuel, p, hg, hty, hvar, hd⟩ := h
 obtain rfl := Option.some.inj ((show Tryz.prog.globalNamed "gobo/gram.own" = some 0 by kernel_rfl).symm.trans hg)
 obtain rfl := Option.some.inj ((show (Tryz.prog.globals[0]?).map (·.type) = some 72 by kernel_rfl).symm.trans hty)
 have hc : Tryz.prog.cellsOf 9 = 1 := by kernel_rfl
 refine ⟨rfl, by decide, fun _ => ⟨_, rfl, fun j s hj => ?_⟩⟩
 have hj6 : j < 6 := (List.getElem?_eq_some_iff.1 hj).1
 obtain ⟨fuel', d, q, hdi, he⟩ := array_elem Tryz.underlying72 hd j hj6
 rw [hc] at he
 obtain ⟨u, hu, hx, _⟩ := DataW.trod_string Tryz.underlying9 he
 have hd1 : d = .lit (.string u.data.toList) := congrArg Prod.fst hx
 have hus : u = s := by
  rw [hd1] at hdi
  have key : u.data.toList = s.data.toList := by
   match j, hj, hdi with
   | 0, hj, hdi => obtain rfl := Option.some.inj hj; simpa [ownL] using hdi.symm
   | 1, hj, hdi => obtain rfl := Option.some.inj hj; simpa [ownL] using hdi.symm
   | 2, hj, hdi => obtain rfl := Option.some.inj hj; simpa [ownL] using hdi.symm
   | 3, hj, hdi => obtain rfl := Option.some.inj hj; simpa [ownL] using hdi.symm
   | 4, hj, hdi => obtain rfl := Option.some.inj hj; simpa [ownL] using hdi.symm
   | 5, hj, hdi => obtain rfl := Option.some.inj hj; simpa [ownL] using hdi.symm
   | n + 6, hj, _ => simp [ownL] at hj
  exact text_ext (by rw [text_data, text_data]; exact key)
 refine ⟨[.string s], rfl, rfl, fun i v hv => ?_⟩
 have hi : i = 0 := by
  cases i with
  | zero => rfl
  | succ n => simp at hv
 subst hi
 have hv' : v = .string s := by simpa using hv.symm
 subst hv'
 have e0 := congrArg (·[0]?) hu
 simp only [List.getElem?_take, List.getElem?_drop] at e0
 show W.cell? ((⟨0, 0, none⟩ : Addr).add (j * 1 + 0)) = _
 rw [add_at, Nat.zero_add, Nat.add_zero, World.var?_cell hg hvar (j * 1), ← Array.getElem?_toList]
 simpa [hus] using e0
theorem tabs_of {W : World} (hL : laidMet Tryz.prog [("gobo/gram.own", Rows.laid_gobo_gram_own)] W) : OwnAt W := own_of (Lib.laidMet.reads hL (.head _))
end Go.Proofs.YthdfmbmbjpmlaaaGreatDoor.Rn
end
