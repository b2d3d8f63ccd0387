/- texts of this claim, one behind the other: GrF, GpE, GrS, GrD, GpA, RnL, RnA, RnQ, RnS, RpN, RnNa, RnPa -/
import Derived.Test.YthdfmbmbjpmlaaaDoorMGLa
import Derived.Shelf.SlSortCmp.WholeK
import Derived.Shelf.SlSortCmp.NoneTotal
import Derived.Shelf.SlicesG.Cmp
import Derived.Shelf.Sort.Plain
import Derived.Shelf.Slices.In.SortNone
import Derived.Shelf.Slices.Cells
import Derived.Shelf.SlGeneric
import Derived.Ground.SlsfProg
import Derived.Ground.SlgcProg
import Derived.Ground.NamesProg
import Derived.Ground.Names2Prog
import Derived.Test.YthdfmbmbjpmlaaaDoorProg
import Derived.Deep.DeepCutAuto
import Derived.StillTailTactics
/- gram.few: a pattern has few nodes, is not deep. -/
set_option linter.unusedVariables false
set_option linter.unusedSimpArgs false
namespace Go.Proofs.YthdfmbmbjpmlaaaDoor.Rn
open Go Go.RowKit Go.Proofs.YthdfmbmbjpmlaaaDoorW.PrintWords Go.Proofs.YthdfmbmbjpmlaaaDoorW.PrintLast Go.Proofs.YthdfmbmbjpmlaaaDoorW.PrintMore
abbrev Pt := S37
abbrev kPt := k37
set_option maxHeartbeats 1000000 in
set_option maxRecDepth 100000 in
theorem few_index (xs : List S37) (A : Option Addr) (c : Nat) (bg bd : Nat) (I J : Nat → World → Prop) (w0 w : World) (hC : k37.C w0 A xs.length xs) (hB : ∀ i W, I i W → Below w0.heap.size w0 W)
    (hstep : ∀ i x cs W, xs[i]? = some x → I i W → k37.K w0 x cs → Calls Tryd.prog 64 #[.agg cs.toArray, .pointer (some ⟨bg, 0, none⟩), .pointer (some ⟨bd, 0, none⟩)] W (CbPost (J i) (I (i + 1)))) (h0 : I 0 w) :
    Calls Tryd.prog 40 #[.slice A xs.length c, .func (.func 64) #[] #[.pointer (some ⟨bg, 0, none⟩), .pointer (some ⟨bd, 0, none⟩)]] w (IdxPost xs.length I J) := by
  have hl : xs.length ≤ 9223372036854775807 := hC.2.1
  have HC := Aside0.mk hC
  have HB := Aside0.mk hB
  have HS := Aside0.mk hstep
  have H0 := Aside0.mk h0
  clear hC hB hstep h0
  go_enter Tryd.func40, Tryd.ntmps40
  go_wp2
  go_loopw [8] (fun i W => ∃ k : Nat, i = .int .i64 k ∧ k ≤ xs.length ∧ Aside0 (I k W)) (fun i _ => xs.length - (intOf i).toNat)
  case atStart => exact ⟨0, rfl, Nat.zero_le _, H0⟩
  case round =>
    obtain ⟨k, rfl, hkl, HI⟩ := hrel
    by_cases hlt : k < xs.length
    · obtain ⟨g, o, rfl, _, hcell⟩ := row_cells HC.out (by omega) (by decide)
      obtain ⟨x, hx⟩ : ∃ x, xs[k]? = some x := ⟨_, List.getElem?_eq_getElem hlt⟩
      obtain ⟨cs, hcl, hK, hcc⟩ := hcell k x hx
      have HK := Aside0.mk hK
      obtain ⟨A1, c1, A2, c2, A3, c3, rfl, l1, g1, l2, g2, l3, g3⟩ := k37_open hK
      have y0 := cell_after (HB.out k _ HI.out) (hcc 0 (.int .i64 x.f0) rfl)
      rw [Nat.add_zero] at y0
      have y1 := cell_after (HB.out k _ HI.out) (hcc 1 (.slice A1 x.f1.length c1) rfl)
      have y2 := cell_after (HB.out k _ HI.out) (hcc 2 (.slice A2 x.f2.length c2) rfl)
      have y3 := cell_after (HB.out k _ HI.out) (hcc 3 (.slice A3 x.f3.length c3) rfl)
      simp only [show k37.sz = 4 from rfl] at y0 y1 y2 y3
      have HX := Aside0.mk hx
      clear hcell hcc hx hK hcl
      go_wp2_with fail
      refine (HS.out k x _ _ HX.out HI.out HK.out).mono ?_
      rintro e w2 hp
      rcases hp with ⟨rfl, hj⟩ | ⟨rfl, hi⟩
      · have HJ := Aside0.mk hj
        clear hj
        go_wp2
        go_ret
        exact Or.inl ⟨k, hlt, rfl, HJ.out⟩
      · have HI2 := Aside0.mk hi
        clear hi
        go_wp2
        go_roundw
        case rel => exact ⟨k + 1, by go_num, by omega, HI2⟩
        case measure => simp [intOf]; omega
    · obtain ⟨n, hn⟩ : ∃ n, xs.length = n := ⟨_, rfl⟩
      have e : k = xs.length := by omega
      have HI2 : Aside0 (I xs.length _) := ⟨e ▸ HI.out⟩
      clear e hn n
      go_wp2
      go_ret
      exact Or.inr ⟨rfl, HI2.out⟩
set_option maxHeartbeats 1000000 in
theorem few_contains (xs : List S37) (A : Option Addr) (c : Nat) (bg bd : Nat) (I J : Nat → World → Prop) (w0 w : World) (hC : k37.C w0 A xs.length xs) (hB : ∀ i W, I i W → Below w0.heap.size w0 W)
    (hstep : ∀ i x cs W, xs[i]? = some x → I i W → k37.K w0 x cs → Calls Tryd.prog 64 #[.agg cs.toArray, .pointer (some ⟨bg, 0, none⟩), .pointer (some ⟨bd, 0, none⟩)] W (CbPost (J i) (I (i + 1)))) (h0 : I 0 w) :
    Calls Tryd.prog 22 #[.slice A xs.length c, .func (.func 64) #[] #[.pointer (some ⟨bg, 0, none⟩), .pointer (some ⟨bd, 0, none⟩)]] w (ConPost xs.length I J) := by
  have hl : xs.length ≤ 9223372036854775807 := hC.2.1
  have HC := Aside0.mk hC
  have HB := Aside0.mk hB
  have HS := Aside0.mk hstep
  have H0 := Aside0.mk h0
  clear hC hB hstep h0
  go_enter Tryd.func22, Tryd.ntmps22
  go_wp2_with fail
  refine (few_index xs A c bg bd I J w0 _ HC.out HB.out HS.out H0.out).mono ?_
  rintro e w2 hp
  rcases hp with ⟨i, hi, rfl, hj⟩ | ⟨rfl, hi⟩
  · have HJ := Aside0.mk hj
    have h0 : (0 : Int) ≤ (i : Int) := by omega
    clear hj
    go_wp2
    go_ret
    exact Or.inl ⟨rfl, i, hi, HJ.out⟩
  · have HI := Aside0.mk hi
    clear hi
    go_wp2
    go_ret
    exact Or.inr ⟨rfl, HI.out⟩
mutual
/-- few nodes, not deep: is it so, and how many are left -/
def fwR : Pt → Int → Int → Bool × Int
  | ⟨_, _, _, l⟩, deep, n => if 0 ≤ n - 1 ∧ deep ≤ 12 then fwL l (deep + 1) (n - 1) else (false, n - 1)
def fwL : List Pt → Int → Int → Bool × Int
  | [], _, n => (true, n)
  | x :: l, deep, n => if (fwR x deep n).1 = true then fwL l deep (fwR x deep n).2 else (false, (fwR x deep n).2)
end
theorem fwL_yes {x : Pt} {l : List Pt} {deep n : Int} (h : (fwR x deep n).1 = true) : fwL (x :: l) deep n = fwL l deep (fwR x deep n).2 := by
  simp only [fwL]
  rw [if_pos h]
theorem fwL_no {x : Pt} {l : List Pt} {deep n : Int} (h : ¬ (fwR x deep n).1 = true) : fwL (x :: l) deep n = (false, (fwR x deep n).2) := by
  simp only [fwL]
  rw [if_neg h]
theorem fwL_append (b : List Pt) : ∀ (a : List Pt) (deep n : Int), fwL (a ++ b) deep n = if (fwL a deep n).1 = true then fwL b deep (fwL a deep n).2 else fwL a deep n
  | [], deep, n => by
    simp only [List.nil_append, fwL, if_true]
  | x :: a, deep, n => by
    by_cases h : (fwR x deep n).1 = true
    · rw [List.cons_append, fwL_yes h, fwL_yes h]
      exact fwL_append b a deep _
    · rw [List.cons_append, fwL_no h, fwL_no h]
      rfl
theorem fwL_snoc {l : List Pt} {k : Nat} {x : Pt} (hx : l[k]? = some x) {deep n m : Int} (h : fwL (l.take k) deep n = (true, m)) : fwL (l.take (k + 1)) deep n = fwR x deep m := by
  rw [List.take_add_one, hx, fwL_append, h]
  simp only [if_true, Option.toList_some, fwL]
  by_cases c : (fwR x deep m).1 = true
  · rw [if_pos c]
    exact Prod.ext c.symm rfl
  · rw [if_neg c]
    exact Prod.ext (by simpa using c) rfl
theorem fwL_front {l : List Pt} {k : Nat} {deep n m : Int} (h : fwL (l.take k) deep n = (false, m)) : fwL l deep n = (false, m) := by
  have e := fwL_append (l.drop k) (l.take k) deep n
  rw [List.take_append_drop, h] at e
  simpa using e
mutual
theorem fwR_bd : ∀ (x : Pt) (deep n : Int), 0 ≤ n → -1 ≤ (fwR x deep n).2 ∧ (fwR x deep n).2 ≤ n ∧ ((fwR x deep n).1 = true → 0 ≤ (fwR x deep n).2)
  | ⟨_, _, _, l⟩, deep, n, h => by
    unfold fwR
    by_cases c : 0 ≤ n - 1 ∧ deep ≤ 12
    · rw [if_pos c]
      have := fwL_bd l (deep + 1) (n - 1) c.1
      exact ⟨this.1, by omega, this.2.2⟩
    · rw [if_neg c]
      exact ⟨by show -1 ≤ n - 1; omega, by show n - 1 ≤ n; omega, fun e => by cases e⟩
theorem fwL_bd : ∀ (l : List Pt) (deep n : Int), 0 ≤ n → -1 ≤ (fwL l deep n).2 ∧ (fwL l deep n).2 ≤ n ∧ ((fwL l deep n).1 = true → 0 ≤ (fwL l deep n).2)
  | [], deep, n, h => ⟨by show -1 ≤ n; omega, Int.le_refl _, fun _ => h⟩
  | x :: l, deep, n, h => by
    have hx := fwR_bd x deep n h
    simp only [fwL]
    by_cases c : (fwR x deep n).1 = true
    · rw [if_pos c]
      have := fwL_bd l deep (fwR x deep n).2 (hx.2.2 c)
      exact ⟨this.1, by omega, this.2.2⟩
    · rw [if_neg c]
      exact ⟨hx.1, hx.2.1, fun e => by cases e⟩
end
def fnF (bl bg : Nat) : Value := .func (.func 63) #[] #[.pointer (some ⟨bl, 0, none⟩), .pointer (some ⟨bg, 0, none⟩)]
def StF (w0 : World) (bl bg : Nat) (n : Int) (W : World) : Prop := Below w0.heap.size w0 W ∧ W.heap[bl]? = some (.cells #[.int .i64 n] 3 (0, 0)) ∧ W.cell? ⟨bg, 0, none⟩ = some (fnF bl bg)
def GoPF (b : Bool) (n : Int) (bl : Nat) (W : World) (e : Ending) (W' : World) : Prop := e = .returned (.bool b) ∧ W.grownBy W' (some bl) ∧ W'.heap[bl]? = some (.cells #[.int .i64 n] 3 (0, 0))
def GoF (x : Pt) : Prop := ∀ (w0 W : World) (bl bg : Nat) (cs : List Value) (deep n : Int), w0.heap.size ≤ bl → w0.heap.size ≤ bg → bl ≠ bg → 0 ≤ n → n ≤ 60 → 1 ≤ deep → deep ≤ 13 → kPt.K w0 x cs → StF w0 bl bg n W →
  Calls Tryd.prog 63 #[.agg cs.toArray, .int .i64 deep, .pointer (some ⟨bl, 0, none⟩), .pointer (some ⟨bg, 0, none⟩)] W (GoPF (fwR x deep n).1 (fwR x deep n).2 bl W)
theorem StF.grown {w0 W W' : World} {bl bg : Nat} {n m : Int} (h : StF w0 bl bg n W) (hl : w0.heap.size ≤ bl) (hne : bl ≠ bg) (hg : W.grownBy W' (some bl)) (hc : W'.heap[bl]? = some (.cells #[.int .i64 m] 3 (0, 0))) : StF w0 bl bg m W' :=
  ⟨Below.grown h.1 hg h.1.size (fun k hk => by obtain rfl := Option.some.inj hk; exact hl), hc, grown_cell hg h.2.2 (fun e => hne e.symm)⟩
/-- the function value within: not within, for a part -/
def NoPF (b : Bool) (n : Int) (bl : Nat) (W : World) (e : Ending) (W' : World) : Prop := e = .returned (.bool (!b)) ∧ W.grownBy W' (some bl) ∧ W'.heap[bl]? = some (.cells #[.int .i64 n] 3 (0, 0))
set_option maxHeartbeats 1000000 in
set_option maxRecDepth 100000 in
theorem few_part {x : Pt} (hx : GoF x) (w0 W : World) (bl bg bd : Nat) (cs : List Value) (deep n : Int) (h1 : w0.heap.size ≤ bl) (h2 : w0.heap.size ≤ bg) (h3 : bl ≠ bg) (h4 : 0 ≤ n) (h5 : n ≤ 60) (h6 : 1 ≤ deep) (h7 : deep ≤ 12) (hK : kPt.K w0 x cs) (hS : StF w0 bl bg n W) (hd : W.cell? ⟨bd, 0, none⟩ = some (.int .i64 deep)) :
    Calls Tryd.prog 64 #[.agg cs.toArray, .pointer (some ⟨bg, 0, none⟩), .pointer (some ⟨bd, 0, none⟩)] W (NoPF (fwR x (deep + 1) n).1 (fwR x (deep + 1) n).2 bl W) := by
  have HX := Aside0.mk hx
  have HK := Aside0.mk hK
  obtain ⟨A1, c1, A2, c2, A3, c3, rfl, _, _, _, _, _, _⟩ := k37_open hK
  obtain ⟨s1, s2, s3⟩ := hS
  have n1 : bl < W.heap.size := blk_lt s2
  have n2 : bg < W.heap.size := blk_lt' s3
  have n3 : bd < W.heap.size := blk_lt' hd
  have m1 : bg ≠ W.heap.size := by omega
  have m2 : bd ≠ W.heap.size := by omega
  have HS : Aside0 (∀ o, StF w0 bl bg n (W.alloc o)) := ⟨fun o => StF.grown ⟨s1, s2, s3⟩ h1 h3 (World.grownBy_alloc W o _) (blk_alloc s2 o)⟩
  have HG : Aside0 (∀ o, W.grownBy (W.alloc o) (some bl)) := ⟨fun o => World.grownBy_alloc W o _⟩
  unfold fnF at s3
  have y3 : ∀ o, (W.alloc o).cell? ⟨bg, 0, none⟩ = some (.func (.func 63) #[] #[.pointer (some ⟨bl, 0, none⟩), .pointer (some ⟨bg, 0, none⟩)]) := fun o => ((below1 W o).cell (p := ⟨bg, 0, none⟩) n2).trans s3
  have yd : ∀ o, (W.alloc o).cell? ⟨bd, 0, none⟩ = some (.int .i64 deep) := fun o => ((below1 W o).cell (p := ⟨bd, 0, none⟩) n3).trans hd
  have HP : Aside0 (1 ≤ deep + 1 ∧ deep + 1 ≤ 13) := ⟨by omega⟩
  clear hK hx s1 s2 s3 hd n1 n2 n3
  go_enter Tryd.func64, Tryd.ntmps64
  go_wp2_with fail
  refine (HX.out w0 _ bl bg _ (deep + 1) n h1 h2 h3 h4 h5 HP.out.1 HP.out.2 HK.out (HS.out _)).mono ?_
  rintro e w2 ⟨rfl, hg, hc⟩
  have HGC := Aside0.mk (And.intro ((HG.out _).trans hg) hc)
  clear hg hc
  go_wp2
  go_ret
  exact ⟨rfl, HGC.out.1, HGC.out.2⟩
/-- how far the parts are looked at -/
def PartsIF (l : List Pt) (deep n : Int) (bl : Nat) (Wb : World) (i : Nat) (W : World) : Prop := Wb.grownBy W (some bl) ∧ ∃ m, fwL (l.take i) deep n = (true, m) ∧ W.heap[bl]? = some (.cells #[.int .i64 m] 3 (0, 0))
def PartsJF (l : List Pt) (deep n : Int) (bl : Nat) (Wb W : World) : Prop := Wb.grownBy W (some bl) ∧ ∃ m, fwL l deep n = (false, m) ∧ W.heap[bl]? = some (.cells #[.int .i64 m] 3 (0, 0))
theorem few_parts (x : Pt) (hx : ∀ y, y ∈ x.f3 → GoF y) (w0 Wb : World) (bl bg bd : Nat) (A : Option Addr) (c : Nat) (deep n : Int) (h1 : w0.heap.size ≤ bl) (h2 : w0.heap.size ≤ bg) (h3 : bl ≠ bg) (h4 : 0 ≤ n) (h5 : n ≤ 60) (h6 : 1 ≤ deep) (h7 : deep ≤ 12) (hC : kPt.C w0 A x.f3.length x.f3) (hS : StF w0 bl bg n Wb) (hd : Wb.cell? ⟨bd, 0, none⟩ = some (.int .i64 deep)) (hbd : bd ≠ bl) :
    Calls Tryd.prog 22 #[.slice A x.f3.length c, .func (.func 64) #[] #[.pointer (some ⟨bg, 0, none⟩), .pointer (some ⟨bd, 0, none⟩)]] Wb (ConPost x.f3.length (PartsIF x.f3 (deep + 1) n bl Wb) (fun _ => PartsJF x.f3 (deep + 1) n bl Wb)) := by
  have hgr : ∀ i W, PartsIF x.f3 (deep + 1) n bl Wb i W → ∃ m, fwL (x.f3.take i) (deep + 1) n = (true, m) ∧ 0 ≤ m ∧ m ≤ n ∧ Wb.grownBy W (some bl) ∧ StF w0 bl bg m W := fun i W hI => by
    obtain ⟨hg, m, hm, hc⟩ := hI
    have hbm := fwL_bd (x.f3.take i) (deep + 1) n h4
    rw [hm] at hbm
    exact ⟨m, hm, hbm.2.2 rfl, hbm.2.1, hg, StF.grown hS h1 h3 hg hc⟩
  refine few_contains x.f3 A c bg bd _ _ w0 Wb hC (fun i W hI => (hgr i W hI).elim fun m h => h.2.2.2.2.1) (fun i y cs W hy hI hK => ?_) ⟨World.grownBy.refl _ _, n, rfl, hS.2.1⟩
  obtain ⟨m, hm, hm0, hm1, hg, hSt⟩ := hgr i W hI
  have hs := fwL_snoc hy hm
  refine (few_part (hx y (List.mem_of_getElem? hy)) w0 W bl bg bd cs deep m h1 h2 h3 hm0 (by omega) h6 h7 hK hSt (grown_cell hg hd hbd)).mono ?_
  rintro e W2 ⟨rfl, hg2, hc2⟩
  have hg3 := hg.trans hg2
  cases hb : (fwR y (deep + 1) m).1
  · refine Or.inl ⟨rfl, hg3, (fwR y (deep + 1) m).2, ?_, hc2⟩
    exact fwL_front (hs.trans (Prod.ext hb rfl))
  · exact Or.inr ⟨rfl, hg3, (fwR y (deep + 1) m).2, hs.trans (Prod.ext hb rfl), hc2⟩
theorem few_world {W : World} {bl : Nat} {n : Int} (hb : W.heap[bl]? = some (.cells #[.int .i64 n] 3 (0, 0))) (o1 : Obj) (deep m : Int) :
    W.grownBy (((W.alloc o1).alloc (.cells #[.int .i64 deep] 3)).setCell ⟨bl, 0, none⟩ (.int .i64 m)) (some bl) ∧ (((W.alloc o1).alloc (.cells #[.int .i64 deep] 3)).setCell ⟨bl, 0, none⟩ (.int .i64 m)).heap[bl]? = some (.cells #[.int .i64 m] 3 (0, 0)) ∧
    (((W.alloc o1).alloc (.cells #[.int .i64 deep] 3)).setCell ⟨bl, 0, none⟩ (.int .i64 m)).cell? ⟨W.heap.size + 1, 0, none⟩ = some (.int .i64 deep) := by
  have hlt := blk_lt hb
  have h2 := blk_alloc (blk_alloc hb o1) (.cells #[.int .i64 deep] 3)
  have hnew := blk_new (W.alloc o1) (.cells #[.int .i64 deep] 3)
  have hsz : (W.alloc o1).heap.size = W.heap.size + 1 := by simp
  rw [hsz] at hnew
  refine ⟨(World.grownBy_alloc W o1 _).trans ((World.grownBy_alloc _ _ _).trans (grownBy_setCell' _ bl _)), blk_put h2 0 _ rfl, ?_⟩
  exact (blk_cell (blk_far hnew (show W.heap.size + 1 ≠ bl by omega) _) 0).trans rfl
set_option maxHeartbeats 1000000 in
set_option maxRecDepth 100000 in
theorem few_go (x : Pt) (hx : ∀ y, y ∈ x.f3 → GoF y) : GoF x := by
  intro w0 W bl bg cs deep n h1 h2 h3 h4 h5 h6 h7 hK hS
  have HK := Aside0.mk hK
  obtain ⟨A1, p1, A2, p2, A3, p3, rfl, _, _, _, _, _, hC2⟩ := k37_open hK
  have HC2 := Aside0.mk hC2
  obtain ⟨s1, s2, s3⟩ := hS
  have n1 : bl < W.heap.size := blk_lt s2
  have n2 : bg < W.heap.size := blk_lt' s3
  have m1 : bl ≠ W.heap.size := by omega
  have m2 : bl ≠ W.heap.size + 1 := by omega
  have HHS := Aside0.mk (show StF w0 bl bg n W from ⟨s1, s2, s3⟩)
  have HHX := Aside0.mk hx
  have HGW := Aside0.mk (few_world s2 (.cells #[.int .i64 x.f0, .slice A1 x.f1.length p1, .slice A2 x.f2.length p2, .slice A3 x.f3.length p3] 37) deep (n - 1))
  have e1 : fwR x deep n = if 0 ≤ n - 1 ∧ deep ≤ 12 then fwL x.f3 (deep + 1) (n - 1) else (false, n - 1) := by
    cases x
    rfl
  have y2 : ∀ o o2, ((W.alloc o).alloc o2).cell? ⟨bl, 0, none⟩ = some (.int .i64 n) := fun o o2 => (blk_cell (blk_alloc (blk_alloc s2 o) o2) 0).trans rfl
  have z2 : ∀ o o2, ((W.alloc o).alloc o2).frozen? ⟨bl, 0, none⟩ = false := fun o o2 => blk_frozen (blk_alloc (blk_alloc s2 o) o2) 0
  clear hK hx s1 s2 s3 n1 n2 hC2
  by_cases c1 : 0 ≤ n - 1
  · by_cases c2 : deep ≤ 12
    · rw [if_pos ⟨c1, c2⟩] at e1
      rw [e1]
      clear e1
      have HD : Aside0 (W.heap.size + 1 ≠ bl) := ⟨fun e => m2 e.symm⟩
      go_enter Tryd.func63, Tryd.ntmps63
      go_wp2_with fail
      refine (few_parts x HHX.out w0 _ bl bg (W.heap.size + 1) A3 p3 deep (n - 1) h1 h2 h3 c1 (by omega) h6 c2 HC2.out (StF.grown HHS.out h1 h3 HGW.out.1 HGW.out.2.1) HGW.out.2.2 HD.out).mono ?_
      rintro e w2 hp
      rcases hp with ⟨rfl, _, _, hg, m, hm, hc⟩ | ⟨rfl, hg, m, hm, hc⟩
      · have HP := Aside0.mk (And.intro (HGW.out.1.trans hg) (And.intro hm hc))
        clear hg hm hc
        go_wp2
        go_ret
        rw [HP.out.2.1]
        exact ⟨rfl, HP.out.1, HP.out.2.2⟩
      · rw [List.take_length] at hm
        have HP := Aside0.mk (And.intro (HGW.out.1.trans hg) (And.intro hm hc))
        clear hg hm hc
        go_wp2
        go_ret
        rw [HP.out.2.1]
        exact ⟨rfl, HP.out.1, HP.out.2.2⟩
    · rw [if_neg (fun h => c2 h.2)] at e1
      rw [e1]
      have hd : decide (deep ≤ 12) = false := decide_eq_false c2
      clear e1
      go_enter Tryd.func63, Tryd.ntmps63
      go_wp2
      go_ret
      exact ⟨rfl, HGW.out.1, HGW.out.2.1⟩
  · rw [if_neg (fun h => c1 h.1)] at e1
    rw [e1]
    have hd : decide (0 ≤ n - 1) = false := decide_eq_false c1
    have hd2 : decide (1 ≤ n) = false := decide_eq_false (by omega)
    clear e1
    go_enter Tryd.func63, Tryd.ntmps63
    go_wp2
    go_ret
    exact ⟨rfl, HGW.out.1, HGW.out.2.1⟩
theorem few_all : ∀ (N : Nat) (x : Pt), SizeOf.sizeOf x < N → GoF x
  | 0, x, h => absurd h (Nat.not_lt_zero _)
  | N + 1, x, h => few_go x (fun y hy => few_all N y (by
      have h1 := List.sizeOf_lt_of_mem hy
      have h2 : SizeOf.sizeOf x.f3 < SizeOf.sizeOf x := by
        cases x
        simp
        omega
      omega))
attribute [local go_sem] run_store_func
/-- where the work begins -/
theorem few_start (w : World) (o1 : Obj) :
    Below w.heap.size w (((w.alloc o1).alloc (.cells #[.int .i64 60] 3)).alloc (.cells #[fnF (w.heap.size + 1) (w.heap.size + 1 + 1)] 98)) ∧
    StF w (w.heap.size + 1) (w.heap.size + 1 + 1) 60 (((w.alloc o1).alloc (.cells #[.int .i64 60] 3)).alloc (.cells #[fnF (w.heap.size + 1) (w.heap.size + 1 + 1)] 98)) := by
  have h3 := third w o1 (.cells #[.int .i64 60] 3) #[fnF (w.heap.size + 1) (w.heap.size + 1 + 1)] 98
  have h2 := blk_alloc (second w o1 #[.int .i64 60] 3) (.cells #[fnF (w.heap.size + 1) (w.heap.size + 1 + 1)] 98)
  have hB := below_alloc (below_alloc (below1 w o1) (.cells #[.int .i64 60] 3)) (.cells #[fnF (w.heap.size + 1) (w.heap.size + 1 + 1)] 98)
  exact ⟨hB, hB, h2, (blk_cell h3 0).trans rfl⟩
/-- few nodes, not deep -/
def fewS (x : Pt) : Bool := (fwR x 1 60).1
set_option maxHeartbeats 1000000 in
set_option maxRecDepth 100000 in
theorem few_any (x : Pt) (w0 w : World) (cs : List Value) (hB : Below w0.heap.size w0 w) (hK0 : kPt.K w0 x cs) :
    Calls Tryd.prog 55 #[.agg cs.toArray] w fun e w' => e = .returned (.bool (fewS x)) ∧ Below w.heap.size w w' := by
  have hK := kPt.K_below hB hK0
  have HK := Aside0.mk hK
  have HG := Aside0.mk (few_all (SizeOf.sizeOf x + 1) x (Nat.lt_succ_self _))
  obtain ⟨A1, p1, A2, p2, A3, p3, rfl, _, _, _, _, _, _⟩ := k37_open hK
  have HW := Aside0.mk (few_start w (.cells #[.int .i64 x.f0, .slice A1 x.f1.length p1, .slice A2 x.f2.length p2, .slice A3 x.f3.length p3] 37))
  clear hK hK0 hB
  go_enter Tryd.func55, Tryd.ntmps55
  go_wp2_with fail
  refine (HG.out w _ (w.heap.size + 1) (w.heap.size + 1 + 1) _ 1 60 (by omega) (by omega) (by omega) (by decide) (by decide) (by decide) (by decide) HK.out HW.out.2).mono ?_
  rintro e w2 ⟨rfl, hg, hc⟩
  have HB := Aside0.mk (Below.grown HW.out.1 hg HW.out.1.size (fun k hk => by obtain rfl := Option.some.inj hk; omega))
  clear hg hc
  go_wp2
  go_ret
  exact ⟨rfl, HB.out⟩
end Go.Proofs.YthdfmbmbjpmlaaaDoor.Rn
namespace Go.Proofs.YthdfmbmbjpmlaaaDoor.Rn
open Go.RowKit Go.Proofs.YthdfmbmbjpmlaaaDoorW.PrintWords Go.Proofs.YthdfmbmbjpmlaaaDoorW.PrintLast Go.Proofs.YthdfmbmbjpmlaaaDoorW.PrintMore
attribute [local go_sem] max2_int min2_int max_two min_two max_three min_three max_four min_four   -- for this text's walks alone
set_option linter.unusedVariables false
set_option linter.unusedSimpArgs false
/-! ### gram_parts: function 68 -/
mutual
def gram_parts.j0 : Nat → Int → Bool → Option (Int)
  | 0, _, _ => none
  | k + 1, x3, x4 => if x4 = true then (some 0) else (if x3 = 3 then (gram_parts.j1 k x3 (x3 == 3)) else (gram_parts.j1 k x3 (x3 == 7)))
def gram_parts.j1 : Nat → Int → Bool → Option (Int)
  | 0, _, _ => none
  | k + 1, x3, x8 => if x8 = true then (some 1) else (if x3 = 5 then (some 2) else (if x3 = 6 then (some 2) else (some (-1))))
end
def gram_parts.f (k : Nat) (a0 : Int) : Option (Int) := if a0 = 1 then (gram_parts.j0 k a0 (a0 == 1)) else (if a0 = 2 then (gram_parts.j0 k a0 (a0 == 2)) else (gram_parts.j0 k a0 (a0 == 4)))
theorem gram_parts.mono_l : ∀ k, (∀ y0 y1, LeO (gram_parts.j0 k y0 y1) (gram_parts.j0 (k + 1) y0 y1)) ∧ (∀ y0 y1, LeO (gram_parts.j1 k y0 y1) (gram_parts.j1 (k + 1) y0 y1))
  | 0 => ⟨fun _ _ r h => by simp [gram_parts.j0] at h, fun _ _ r h => by simp [gram_parts.j1] at h⟩
  | k + 1 => by
    obtain ⟨ih0, ih1⟩ := gram_parts.mono_l k
    refine ⟨?_, ?_⟩
    · intro y0 y1
      unfold gram_parts.j0
      repeat' first
      | (with_reducible exact ih0 _ _)
      | (with_reducible exact ih1 _ _)
      | (with_reducible exact LeO.refl _)
      | (with_reducible exact LeO.none _)
      | (with_reducible refine LeO.ite ?_ ?_)
      | (with_reducible refine LeO.bind ?_ (fun _ => ?_))
      | exact ih0 _ _
      | exact ih1 _ _
      | exact LeO.none _
      | refine LeO.ite ?_ ?_
      | refine LeO.bind ?_ (fun _ => ?_)
    · intro y0 y1
      unfold gram_parts.j1
      repeat' first
      | (with_reducible exact ih0 _ _)
      | (with_reducible exact ih1 _ _)
      | (with_reducible exact LeO.refl _)
      | (with_reducible exact LeO.none _)
      | (with_reducible refine LeO.ite ?_ ?_)
      | (with_reducible refine LeO.bind ?_ (fun _ => ?_))
      | exact ih0 _ _
      | exact ih1 _ _
      | exact LeO.none _
      | refine LeO.ite ?_ ?_
      | refine LeO.bind ?_ (fun _ => ?_)
theorem gram_parts.mono : ∀ a0 k, LeO (gram_parts.f k a0) (gram_parts.f (k + 1) a0) := by
  intro a0 k
  obtain ⟨ih0, ih1⟩ := gram_parts.mono_l k
  unfold gram_parts.f
  repeat' first
      | (with_reducible exact ih0 _ _)
      | (with_reducible exact ih1 _ _)
      | (with_reducible exact LeO.refl _)
      | (with_reducible exact LeO.none _)
      | (with_reducible refine LeO.ite ?_ ?_)
      | (with_reducible refine LeO.bind ?_ (fun _ => ?_))
      | exact ih0 _ _
      | exact ih1 _ _
      | exact LeO.none _
      | refine LeO.ite ?_ ?_
      | refine LeO.bind ?_ (fun _ => ?_)
set_option maxHeartbeats 8000000 in
set_option maxRecDepth 100000 in
theorem gram_parts.calls (k : Nat) (a0 : Int) (r : Int) (w : World) (h : gram_parts.f k a0 = some r) :
    Calls Tryd.prog 68 #[.int .i64 a0] w fun e w' => e = .returned (.int .i64 r) ∧ Drawn0 w w' := by
  have H : (if a0 = 1 then (gram_parts.j0 k a0 (a0 == 1)) else (if a0 = 2 then (gram_parts.j0 k a0 (a0 == 2)) else (gram_parts.j0 k a0 (a0 == 4)))) = some r := h
  clear h
  have HC2 := Aside0.mk H
  clear H
  go_enter Tryd.func68, Tryd.ntmps68
  go_upto_if 4 with (fail)
  go_cut [4] (fun v4 wc => ∃ (kq : Nat) (x4_1 : Bool), v4 = .bool x4_1 ∧ Aside0 (gram_parts.j0 kq a0 x4_1 = some r) ∧ Aside0 (kq ≤ k) ∧ Drawn0 w wc)
  case first =>
    have H := HC2.out
    clear HC2
    by_cases c3 : a0 = 1
    · rw [if_pos c3] at H
      have c3b0 : (a0 == 1) = true := beq_iff_eq.mpr c3
      have c3b1 : (a0 != 1) = false := bne_eq_false_iff_eq.mpr c3
      clear c3
      (first | rw [c3b0] | (simp only [i64_w, i32_w]; rw [c3b0]) | skip)
      have H' := Aside0.mk H
      clear H
      go_wp2
      go_meet
      case rel => exact ⟨_, ((a0 == 1)), (by first | rfl | (simp; done) | (simp [*]; done)), H', ⟨by first | omega | exact Nat.le_refl _⟩, by repeat (first | exact Drawn0.refl _ | apply Drawn0.step)⟩
    · rw [if_neg c3] at H
      have c3b0 : (a0 == 1) = false := beq_eq_false_iff_ne.mpr c3
      have c3b1 : (a0 != 1) = true := bne_iff_ne.mpr c3
      (first | rw [c3b0] | (simp only [i64_w, i32_w]; rw [c3b0]) | skip)
      by_cases c4 : a0 = 2
      · rw [if_pos c4] at H
        have c4b0 : (a0 == 2) = true := beq_iff_eq.mpr c4
        have c4b1 : (a0 != 2) = false := bne_eq_false_iff_eq.mpr c4
        clear c4
        have H' := Aside0.mk H
        clear H
        go_wp2
        go_meet
        case rel => exact ⟨_, ((a0 == 2)), (by first | rfl | (simp; done) | (simp [*]; done)), H', ⟨by first | omega | exact Nat.le_refl _⟩, by repeat (first | exact Drawn0.refl _ | apply Drawn0.step)⟩
      · rw [if_neg c4] at H
        have c4b0 : (a0 == 2) = false := beq_eq_false_iff_ne.mpr c4
        have c4b1 : (a0 != 2) = true := bne_iff_ne.mpr c4
        have H' := Aside0.mk H
        clear H
        go_wp2
        go_meet
        case rel => exact ⟨_, ((a0 == 4)), (by first | rfl | (simp; done) | (simp [*]; done)), H', ⟨by first | omega | exact Nat.le_refl _⟩, by repeat (first | exact Drawn0.refl _ | apply Drawn0.step)⟩
  case rest =>
    clear HC2
    try clear p2
    try clear c3
    try clear c3b0
    try clear c3b1
    try clear c4
    try clear c4b0
    try clear c4b1
    obtain ⟨kq, x4_1, rfl, HA, HJ1, ⟨mc1, rfl⟩⟩ := hcut
    cases kq with
    | zero => exact absurd HA.out (by simp [gram_parts.j0])
    | succ kj1 =>
      have H := HA.out
      clear HA
      simp only [gram_parts.j0] at H
      by_cases c5 : x4_1 = true
      · subst c5
        have H1 : (some 0) = some r := by rw [if_pos rfl] at H; exact H
        clear H
        have H := H1
        clear H1
        obtain rfl := Option.some.inj H
        go_wp2
        go_ret
        exact ⟨by first | rfl | (simp; done) | (simp [*]; done), by repeat (first | exact Drawn0.refl _ | apply Drawn0.step)⟩
      · replace c5 := Bool.eq_false_iff.mpr c5
        subst c5
        have H1 : (if a0 = 3 then (gram_parts.j1 kj1 a0 (a0 == 3)) else (gram_parts.j1 kj1 a0 (a0 == 7))) = some r := by rw [if_neg (show ¬ (false = true) by decide)] at H; exact H
        clear H
        have H := H1
        clear H1
        have HC6 := Aside0.mk H
        clear H
        go_upto_if 8 with (fail)
        go_cut [8] (fun v8 wc => ∃ (kq : Nat) (x8_5 : Bool), v8 = .bool x8_5 ∧ Aside0 (gram_parts.j1 kq a0 x8_5 = some r) ∧ Aside0 (kq ≤ kj1) ∧ Drawn0 w wc)
        case first =>
          have H := HC6.out
          clear HC6
          by_cases c7 : a0 = 3
          · rw [if_pos c7] at H
            have c7b0 : (a0 == 3) = true := beq_iff_eq.mpr c7
            have c7b1 : (a0 != 3) = false := bne_eq_false_iff_eq.mpr c7
            clear c7
            (first | rw [c7b0] | (simp only [i64_w, i32_w]; rw [c7b0]) | skip)
            have H' := Aside0.mk H
            clear H
            go_wp2
            go_meet
            case rel => exact ⟨_, ((a0 == 3)), (by first | rfl | (simp; done) | (simp [*]; done)), H', ⟨by have := HJ1.out; first | omega | exact Nat.le_refl _⟩, by repeat (first | exact Drawn0.refl _ | apply Drawn0.step)⟩
          · rw [if_neg c7] at H
            have c7b0 : (a0 == 3) = false := beq_eq_false_iff_ne.mpr c7
            have c7b1 : (a0 != 3) = true := bne_iff_ne.mpr c7
            (first | rw [c7b0] | (simp only [i64_w, i32_w]; rw [c7b0]) | skip)
            have H' := Aside0.mk H
            clear H
            go_wp2
            go_meet
            case rel => exact ⟨_, ((a0 == 7)), (by first | rfl | (simp; done) | (simp [*]; done)), H', ⟨by have := HJ1.out; first | omega | exact Nat.le_refl _⟩, by repeat (first | exact Drawn0.refl _ | apply Drawn0.step)⟩
        case rest =>
          clear HC6
          try clear c1
          try clear p2
          try clear c3
          try clear c3b0
          try clear c3b1
          try clear c4
          try clear c4b0
          try clear c4b1
          try clear c5
          try clear c6
          try clear c7
          try clear c7b0
          try clear c7b1
          try clear p2
          obtain ⟨kq, x8_5, rfl, HA, HJ5, ⟨mc5, rfl⟩⟩ := hcut
          cases kq with
          | zero => exact absurd HA.out (by simp [gram_parts.j1])
          | succ kj5 =>
            have H := HA.out
            clear HA
            simp only [gram_parts.j1] at H
            by_cases c8 : x8_5 = true
            · subst c8
              have H1 : (some 1) = some r := by rw [if_pos rfl] at H; exact H
              clear H
              have H := H1
              clear H1
              obtain rfl := Option.some.inj H
              go_wp2
              go_ret
              exact ⟨by first | rfl | (simp; done) | (simp [*]; done), by repeat (first | exact Drawn0.refl _ | apply Drawn0.step)⟩
            · replace c8 := Bool.eq_false_iff.mpr c8
              subst c8
              have H1 : (if a0 = 5 then (some 2) else (if a0 = 6 then (some 2) else (some (-1)))) = some r := by rw [if_neg (show ¬ (false = true) by decide)] at H; exact H
              clear H
              have H := H1
              clear H1
              by_cases c9 : a0 = 5
              · rw [if_pos c9] at H
                have c9b0 : (a0 == 5) = true := beq_iff_eq.mpr c9
                have c9b1 : (a0 != 5) = false := bne_eq_false_iff_eq.mpr c9
                clear c9
                obtain rfl := Option.some.inj H
                go_wp2
                go_ret
                exact ⟨by first | rfl | (simp; done) | (simp [*]; done), by repeat (first | exact Drawn0.refl _ | apply Drawn0.step)⟩
              · rw [if_neg c9] at H
                have c9b0 : (a0 == 5) = false := beq_eq_false_iff_ne.mpr c9
                have c9b1 : (a0 != 5) = true := bne_iff_ne.mpr c9
                by_cases c10 : a0 = 6
                · rw [if_pos c10] at H
                  have c10b0 : (a0 == 6) = true := beq_iff_eq.mpr c10
                  have c10b1 : (a0 != 6) = false := bne_eq_false_iff_eq.mpr c10
                  clear c10
                  obtain rfl := Option.some.inj H
                  go_wp2
                  go_ret
                  exact ⟨by first | rfl | (simp; done) | (simp [*]; done), by repeat (first | exact Drawn0.refl _ | apply Drawn0.step)⟩
                · rw [if_neg c10] at H
                  have c10b0 : (a0 == 6) = false := beq_eq_false_iff_ne.mpr c10
                  have c10b1 : (a0 != 6) = true := bne_iff_ne.mpr c10
                  obtain rfl := Option.some.inj H
                  go_wp2
                  go_ret
                  exact ⟨by first | rfl | (simp; done) | (simp [*]; done), by repeat (first | exact Drawn0.refl _ | apply Drawn0.step)⟩
end Go.Proofs.YthdfmbmbjpmlaaaDoor.Rn
/- gram.shaped: a node has the parts of its kind. -/
set_option linter.unusedVariables false
set_option linter.unusedSimpArgs false
namespace Go.Proofs.YthdfmbmbjpmlaaaDoor.Rn
open Go Go.RowKit Go.Proofs.YthdfmbmbjpmlaaaDoorW.PrintWords Go.Proofs.YthdfmbmbjpmlaaaDoorW.PrintLast Go.Proofs.YthdfmbmbjpmlaaaDoorW.PrintMore
def partsP (a : Int) : Int := if a = 1 ∨ a = 2 ∨ a = 4 then 0 else if a = 3 ∨ a = 7 then 1 else if a = 5 ∨ a = 6 then 2 else -1
theorem partsP_f (a : Int) : gram_parts.f 5 a = some (partsP a) := by
  unfold gram_parts.f partsP
  by_cases h1 : a = 1
  · subst h1; rfl
  by_cases h2 : a = 2
  · subst h2; rfl
  by_cases h3 : a = 3
  · subst h3; rfl
  by_cases h4 : a = 4
  · subst h4; rfl
  by_cases h5 : a = 5
  · subst h5; rfl
  by_cases h6 : a = 6
  · subst h6; rfl
  by_cases h7 : a = 7
  · subst h7; rfl
  simp [h1, h2, h3, h4, h5, h6, h7, gram_parts.j0, gram_parts.j1]
def shapedS (x : Pt) : Bool := ((x.f3.length : Int) == partsP x.f0) && ((decide (0 < (x.f1.length : Int))) == (x.f0 == 3 || x.f0 == 2)) && ((decide (0 < (x.f2.length : Int))) == (x.f0 == 3))
set_option maxHeartbeats 4000000 in
set_option maxRecDepth 100000 in
theorem shaped_any (x : Pt) (w0 W : World) (cs : List Value) (hB : Below w0.heap.size w0 W) (hK : kPt.K w0 x cs) :
    Calls Tryd.prog 65 #[.agg cs.toArray] W fun e W' => e = .returned (.bool (shapedS x)) ∧ Below W.heap.size W W' := by
  obtain ⟨A1, p1, A2, p2, A3, p3, rfl, _, _, _, _, _, _⟩ := k37_open hK
  obtain ⟨w1, hw1⟩ : ∃ w1, W.alloc (.cells #[.int .i64 x.f0, .slice A1 x.f1.length p1, .slice A2 x.f2.length p2, .slice A3 x.f3.length p3] 37) = w1 := ⟨_, rfl⟩
  have hnew : w1.heap[W.heap.size]? = some (.cells #[.int .i64 x.f0, .slice A1 x.f1.length p1, .slice A2 x.f2.length p2, .slice A3 x.f3.length p3] 37 (0, 0)) := by rw [← hw1]; exact blk_new _ _
  have hB1 : Below W.heap.size W w1 := hw1 ▸ below1 W _
  have q0 : ∀ p : Later w1, p.wx.cell? ⟨W.heap.size, 0, none⟩ = some (.int .i64 x.f0) := fun p => cell_after p.below ((blk_cell hnew 0).trans rfl)
  have q1 : ∀ p : Later w1, p.wx.cell? ⟨W.heap.size, 1, none⟩ = some (.slice A1 x.f1.length p1) := fun p => cell_after p.below ((blk_cell hnew 1).trans rfl)
  have q2 : ∀ p : Later w1, p.wx.cell? ⟨W.heap.size, 2, none⟩ = some (.slice A2 x.f2.length p2) := fun p => cell_after p.below ((blk_cell hnew 2).trans rfl)
  have q3 : ∀ p : Later w1, p.wx.cell? ⟨W.heap.size, 3, none⟩ = some (.slice A3 x.f3.length p3) := fun p => cell_after p.below ((blk_cell hnew 3).trans rfl)
  have z0 : w1.cell? ⟨W.heap.size, 0, none⟩ = some (.int .i64 x.f0) := (blk_cell hnew 0).trans rfl
  have HLAT : Aside0 (Below w1.heap.size w1 w1.drew) := ⟨below_drew1 (Below.refl _ _)⟩
  have HB1 := Aside0.mk hB1
  obtain ⟨b, hb⟩ : ∃ b, shapedS x = b := ⟨_, rfl⟩
  rw [hb]
  have RET : Aside0 (∀ v w', shapedS x = v → Below W.heap.size W w' → (Ending.returned (.bool v) = Ending.returned (.bool b) ∧ Below W.heap.size W w')) := ⟨fun v w' h1 h2 => ⟨by rw [← hb, h1], h2⟩⟩
  obtain ⟨c1, h1⟩ : ∃ c, ((x.f3.length : Int) == partsP x.f0) = c := ⟨_, rfl⟩
  obtain ⟨c2, h2⟩ : ∃ c, decide (0 < (x.f1.length : Int)) = c := ⟨_, rfl⟩
  obtain ⟨c3, h3⟩ : ∃ c, decide (0 < (x.f2.length : Int)) = c := ⟨_, rfl⟩
  obtain ⟨c4, h4⟩ : ∃ c, (x.f0 == 3) = c := ⟨_, rfl⟩
  obtain ⟨c5, h5⟩ : ∃ c, (x.f0 == 2) = c := ⟨_, rfl⟩
  have HV : Aside0 (shapedS x = (c1 && (c2 == (c4 || c5)) && (c3 == c4))) := ⟨by unfold shapedS; rw [h1, h2, h3, h4, h5]⟩
  have h2' : decide (0 < x.f1.length) = c2 := by rw [← h2]; simp
  have h3' : decide (0 < x.f2.length) = c3 := by rw [← h3]; simp
  clear hK hB hB1 hb hnew
  have cs7 : c1 = false ∨ c1 = true ∧ c4 = true ∧ c2 = true ∨ c1 = true ∧ c4 = true ∧ c2 = false ∨ c1 = true ∧ c4 = false ∧ c2 = true ∧ c5 = true ∨ c1 = true ∧ c4 = false ∧ c2 = true ∧ c5 = false ∨ c1 = true ∧ c4 = false ∧ c2 = false ∧ c5 = true ∨ c1 = true ∧ c4 = false ∧ c2 = false ∧ c5 = false := by
    cases c1 <;> cases c2 <;> cases c4 <;> cases c5 <;> simp
  rcases cs7 with rfl | ⟨rfl, rfl, rfl⟩ | ⟨rfl, rfl, rfl⟩ | ⟨rfl, rfl, rfl, rfl⟩ | ⟨rfl, rfl, rfl, rfl⟩ | ⟨rfl, rfl, rfl, rfl⟩ | ⟨rfl, rfl, rfl, rfl⟩
  all_goals
    go_enter Tryd.func65, Tryd.ntmps65
    go_wp2
    clear hw1 z0
    have hund : undef = Value.tuple #[] := rfl
    refine wp_region_held (S := fun w' => ∃ p : Later w1, w' = p.wx) (by kernel_rfl) ?_
    change wpAnyH _ _ _ _ _ _ _ _ (World.drew _)
    ((refine takeQ (i := 0) (by rfl) (by kernel_rfl) (by kernel_rfl) (by kernel_rfl) ?_ ?_ ?_); (focus exact fun _ _ _ _ h => h); (focus exact ⟨⟨_, HLAT.out⟩, rfl⟩); intro K hK; go_simp; (with_reducible refine hK _ ?_); clear hK K)
    ((refine takeQ (i := 1) (by rfl) (by kernel_rfl) (by kernel_rfl) (by kernel_rfl) ?_ ?_ ?_); (focus exact fun _ _ _ _ h => h); (focus exact ⟨⟨_, HLAT.out⟩, rfl⟩); intro K hK; go_simp; (with_reducible refine hK _ ?_); clear hK K)
    ((refine takeQ (i := 2) (by rfl) (by kernel_rfl) (by kernel_rfl) (by kernel_rfl) ?_ ?_ ?_); (focus exact fun _ _ _ _ h => h); (focus exact ⟨⟨_, HLAT.out⟩, rfl⟩); intro K hK; go_simp; (with_reducible refine hK _ ?_); clear hK K)
    ((refine takeQ (i := 3) (by rfl) (by kernel_rfl) (by kernel_rfl) (by kernel_rfl) ?_ ?_ ?_); (focus exact fun _ _ _ _ h => h); (focus exact ⟨⟨_, HLAT.out⟩, rfl⟩); intro K hK; go_simp; (with_reducible refine hK _ ?_); clear hK K)
    ((refine takeQ (i := 4) (by rfl) (by kernel_rfl) (by kernel_rfl) (by kernel_rfl) ?_ ?_ ?_); (focus exact fun _ _ _ _ h => h); (focus exact ⟨⟨_, HLAT.out⟩, rfl⟩); intro K hK; go_simp; (with_reducible refine hK _ ?_); clear hK K)
    refine hall1 (i := 5) (by kernel_rfl) (by rfl) (fun K hK => ?_)
    go_simp
    refine (gram_parts.calls 5 x.f0 (partsP x.f0) _ (partsP_f _)).mono ?_
    rintro e u1 ⟨rfl, hd⟩
    have HU1 : Aside0 (Below w1.heap.size w1 u1) := ⟨join_below HLAT.out hd.below⟩
    clear hd
    refine hK _ _ ⟨⟨_, HU1.out⟩, rfl⟩ ?_
    clear hK K
    ((refine takeQ (i := 6) (by rfl) (by kernel_rfl) (by kernel_rfl) (by kernel_rfl) ?_ ?_ ?_); (focus exact fun _ _ _ _ h => h); (focus exact ⟨⟨_, HU1.out⟩, rfl⟩); intro K hK; go_simp; (with_reducible refine hK _ ?_); clear hK K)
    ((refine takeQ (i := 7) (by rfl) (by kernel_rfl) (by kernel_rfl) (by kernel_rfl) ?_ ?_ ?_); (focus exact fun _ _ _ _ h => h); (focus exact ⟨⟨_, HU1.out⟩, rfl⟩); intro K hK; go_simp; (with_reducible refine hK _ ?_); clear hK K)
    ((refine takeQ (i := 8) (by rfl) (by kernel_rfl) (by kernel_rfl) (by kernel_rfl) ?_ ?_ ?_); (focus exact fun _ _ _ _ h => h); (focus exact ⟨⟨_, HU1.out⟩, rfl⟩); intro K hK; go_simp; (with_reducible refine hK _ ?_); clear hK K)
    ((refine takeQ (i := 9) (by rfl) (by kernel_rfl) (by kernel_rfl) (by kernel_rfl) ?_ ?_ ?_); (focus exact fun _ _ _ _ h => h); (focus exact ⟨⟨_, HU1.out⟩, rfl⟩); intro K hK; go_simp; (with_reducible refine hK _ ?_); clear hK K)
    ((refine takeQ (i := 10) (by rfl) (by kernel_rfl) (by kernel_rfl) (by kernel_rfl) ?_ ?_ ?_); (focus exact fun _ _ _ _ h => h); (focus exact ⟨⟨_, HU1.out⟩, rfl⟩); intro K hK; go_simp; (with_reducible refine hK _ ?_); clear hK K)
    ((refine takeQ (i := 11) (by rfl) (by kernel_rfl) (by kernel_rfl) (by kernel_rfl) ?_ ?_ ?_); (focus exact fun _ _ _ _ h => h); (focus exact ⟨⟨_, HU1.out⟩, rfl⟩); intro K hK; go_simp; (with_reducible refine hK _ ?_); clear hK K)
    ((refine takeQ (i := 12) (by rfl) (by kernel_rfl) (by kernel_rfl) (by kernel_rfl) ?_ ?_ ?_); (focus exact fun _ _ _ _ h => h); (focus exact ⟨⟨_, HU1.out⟩, rfl⟩); intro K hK; go_simp; (with_reducible refine hK _ ?_); clear hK K)
    ((refine takeQ (i := 13) (by rfl) (by kernel_rfl) (by kernel_rfl) (by kernel_rfl) ?_ ?_ ?_); (focus exact fun _ _ _ _ h => h); (focus exact ⟨⟨_, HU1.out⟩, rfl⟩); intro K hK; go_simp; (with_reducible refine hK _ ?_); clear hK K)
    ((refine takeQ (i := 14) (by rfl) (by kernel_rfl) (by kernel_rfl) (by kernel_rfl) ?_ ?_ ?_); (focus exact fun _ _ _ _ h => h); (focus exact ⟨⟨_, HU1.out⟩, rfl⟩); intro K hK; go_simp; (with_reducible refine hK _ ?_); clear hK K)
    ((refine takeQ (i := 15) (by rfl) (by kernel_rfl) (by kernel_rfl) (by kernel_rfl) ?_ ?_ ?_); (focus exact fun _ _ _ _ h => h); (focus exact ⟨⟨_, HU1.out⟩, rfl⟩); intro K hK; go_simp; (with_reducible refine hK _ ?_); clear hK K)
    ((refine takeQ (i := 16) (by rfl) (by kernel_rfl) (by kernel_rfl) (by kernel_rfl) ?_ ?_ ?_); (focus exact fun _ _ _ _ h => h); (focus exact ⟨⟨_, HU1.out⟩, rfl⟩); intro K hK; go_simp; (with_reducible refine hK _ ?_); clear hK K)
    ((refine takeQ (i := 17) (by rfl) (by kernel_rfl) (by kernel_rfl) (by kernel_rfl) ?_ ?_ ?_); (focus exact fun _ _ _ _ h => h); (focus exact ⟨⟨_, HU1.out⟩, rfl⟩); intro K hK; go_simp; (with_reducible refine hK _ ?_); clear hK K)
    ((refine takeQ (i := 18) (by rfl) (by kernel_rfl) (by kernel_rfl) (by kernel_rfl) ?_ ?_ ?_); (focus exact fun _ _ _ _ h => h); (focus exact ⟨⟨_, HU1.out⟩, rfl⟩); intro K hK; go_simp; (with_reducible refine hK _ ?_); clear hK K)
    ((refine takeQ (i := 19) (by rfl) (by kernel_rfl) (by kernel_rfl) (by kernel_rfl) ?_ ?_ ?_); (focus exact fun _ _ _ _ h => h); (focus exact ⟨⟨_, HU1.out⟩, rfl⟩); intro K hK; go_simp; (with_reducible refine hK _ ?_); clear hK K)
    ((refine takeQ (i := 20) (by rfl) (by kernel_rfl) (by kernel_rfl) (by kernel_rfl) ?_ ?_ ?_); (focus exact fun _ _ _ _ h => h); (focus exact ⟨⟨_, HU1.out⟩, rfl⟩); intro K hK; go_simp; (with_reducible refine hK _ ?_); clear hK K)
    ((refine takeQ (i := 21) (by rfl) (by kernel_rfl) (by kernel_rfl) (by kernel_rfl) ?_ ?_ ?_); (focus exact fun _ _ _ _ h => h); (focus exact ⟨⟨_, HU1.out⟩, rfl⟩); intro K hK; go_simp; (with_reducible refine hK _ ?_); clear hK K)
    ((refine takeQ (i := 22) (by rfl) (by kernel_rfl) (by kernel_rfl) (by kernel_rfl) ?_ ?_ ?_); (focus exact fun _ _ _ _ h => h); (focus exact ⟨⟨_, HU1.out⟩, rfl⟩); intro K hK; go_simp; (with_reducible refine hK _ ?_); clear hK K)
    ((refine takeQ (i := 23) (by rfl) (by kernel_rfl) (by kernel_rfl) (by kernel_rfl) ?_ ?_ ?_); (focus exact fun _ _ _ _ h => h); (focus exact ⟨⟨_, HU1.out⟩, rfl⟩); intro K hK; go_simp; (with_reducible refine hK _ ?_); clear hK K)
    ((refine takeQ (i := 24) (by rfl) (by kernel_rfl) (by kernel_rfl) (by kernel_rfl) ?_ ?_ ?_); (focus exact fun _ _ _ _ h => h); (focus exact ⟨⟨_, HU1.out⟩, rfl⟩); intro K hK; go_simp; (with_reducible refine hK _ ?_); clear hK K)
    ((refine takeQ (i := 25) (by rfl) (by kernel_rfl) (by kernel_rfl) (by kernel_rfl) ?_ ?_ ?_); (focus exact fun _ _ _ _ h => h); (focus exact ⟨⟨_, HU1.out⟩, rfl⟩); intro K hK; go_simp; (with_reducible refine hK _ ?_); clear hK K)
    ((refine takeQ (i := 26) (by rfl) (by kernel_rfl) (by kernel_rfl) (by kernel_rfl) ?_ ?_ ?_); (focus exact fun _ _ _ _ h => h); (focus exact ⟨⟨_, HU1.out⟩, rfl⟩); intro K hK; go_simp; (with_reducible refine hK _ ?_); clear hK K)
    ((refine takeQ (i := 27) (by rfl) (by kernel_rfl) (by kernel_rfl) (by kernel_rfl) ?_ ?_ ?_); (focus exact fun _ _ _ _ h => h); (focus exact ⟨⟨_, HU1.out⟩, rfl⟩); intro K hK; go_simp; (with_reducible refine hK _ ?_); clear hK K)
    ((refine takeQ (i := 28) (by rfl) (by kernel_rfl) (by kernel_rfl) (by kernel_rfl) ?_ ?_ ?_); (focus exact fun _ _ _ _ h => h); (focus exact ⟨⟨_, HU1.out⟩, rfl⟩); intro K hK; go_simp; (with_reducible refine hK _ ?_); clear hK K)
    refine wpAnyH_done (by kernel_rfl) ?_ _
    go_wp2
    go_ret
    exact RET.out _ _ (HV.out.trans (by first | rfl | (cases c3 <;> rfl) | (cases c2 <;> cases c3 <;> cases c4 <;> cases c5 <;> rfl))) (join_below HB1.out HU1.out)
end Go.Proofs.YthdfmbmbjpmlaaaDoor.Rn
/- gram: the court's node and pattern. -/
set_option linter.unusedVariables false
set_option linter.unusedSimpArgs false
namespace Go.Proofs.YthdfmbmbjpmlaaaDoor.Rn
open Go Go.RowKit Go.Proofs.YthdfmbmbjpmlaaaDoorW.PrintWords Go.Proofs.YthdfmbmbjpmlaaaDoorW.PrintLast Go.Proofs.YthdfmbmbjpmlaaaDoorW.PrintMore
/-- the first of two faults -/
def orS (a b : Option Int) : Option Int := match a with | none => b | some c => some c
mutual
/-- what is wrong with a pattern's node, and those within it -/
def nodeR (T : List Tok) : Pt → Option Int
  | ⟨k, n, e, l⟩ => if shapedS ⟨k, n, e, l⟩ = true then orS (namesS T (if k = 3 then 1 else 0) [] n) (orS (namesS T 2 [] e) (nodeL T l)) else some 5
def nodeL (T : List Tok) : List Pt → Option Int
  | [] => none
  | x :: l => orS (nodeR T x) (nodeL T l)
end
def NodeC (T : List Tok) (x : Pt) : Prop := ∀ (bc : Nat) (AT : Option Addr) (ct : Nat) (AR : Option Addr) (R : List Rul) (cr : Nat) (wh : Int) (w0 W : World) (cs : List Value), Below w0.heap.size w0 W → CourtAt bc AT T ct AR R cr wh W → kTok.C W AT T.length T → kPt.K w0 x cs →
  Calls Tryd.prog 56 #[.pointer (some ⟨bc, 0, none⟩), .agg cs.toArray] W (CourtPost wh (nodeR T x) W)
set_option maxHeartbeats 2000000 in
set_option maxRecDepth 100000 in
theorem node_go (T : List Tok) (x : Pt) (hx : ∀ y, y ∈ x.f3 → NodeC T y) : NodeC T x := by
  intro bc AT ct AR R cr wh w0 W cs hB hc hT hK
  have HK := Aside0.mk hK
  obtain ⟨A1, p1, A2, p2, A3, p3, rfl, hp1, hC1, hp2, hC2, _, hC3⟩ := k37_open hK
  have e1 : nodeR T x = if shapedS x = true then orS (namesS T (if x.f0 = 3 then 1 else 0) [] x.f1) (orS (namesS T 2 [] x.f2) (nodeL T x.f3)) else some 5 := by
    cases x
    rfl
  have hlen : x.f3.length ≤ 9223372036854775807 := hC3.2.1
  obtain ⟨w1, hw1⟩ : ∃ w1, W.alloc (.cells #[.int .i64 x.f0, .slice A1 x.f1.length p1, .slice A2 x.f2.length p2, .slice A3 x.f3.length p3] 37) = w1 := ⟨_, rfl⟩
  have hnew : w1.heap[W.heap.size]? = some (.cells #[.int .i64 x.f0, .slice A1 x.f1.length p1, .slice A2 x.f2.length p2, .slice A3 x.f3.length p3] 37 (0, 0)) := by rw [← hw1]; exact blk_new _ _
  have HB1 : Aside0 (Below W.heap.size W w1) := ⟨hw1 ▸ below1 W _⟩
  have z0 : w1.cell? ⟨W.heap.size, 0, none⟩ = some (.int .i64 x.f0) := (blk_cell hnew 0).trans rfl
  have z1 : w1.cell? ⟨W.heap.size, 1, none⟩ = some (.slice A1 x.f1.length p1) := (blk_cell hnew 1).trans rfl
  have z2 : w1.cell? ⟨W.heap.size, 2, none⟩ = some (.slice A2 x.f2.length p2) := (blk_cell hnew 2).trans rfl
  have z3 : w1.cell? ⟨W.heap.size, 3, none⟩ = some (.slice A3 x.f3.length p3) := (blk_cell hnew 3).trans rfl
  have HN := Aside0.mk hnew
  have HC := Aside0.mk hc
  have HT := Aside0.mk hT
  have HB := Aside0.mk hB
  have HX := Aside0.mk hx
  have HE := Aside0.mk e1
  have HC1 := Aside0.mk (And.intro hC1 hp1)
  have HC2 := Aside0.mk (And.intro hC2 hp2)
  have HC3 := Aside0.mk hC3
  obtain ⟨res, hres⟩ : ∃ res, nodeR T x = res := ⟨_, rfl⟩
  have HR := Aside0.mk hres
  rw [hres]
  clear hK hnew hc hT hB hx e1 hC1 hp1 hC2 hp2 hC3 hres
  go_enter Tryd.func56, Tryd.ntmps56
  have HW : Aside0 (Below w0.heap.size w0 w1) := ⟨join_below HB.out HB1.out⟩
  go_wp2_with fail
  refine (shaped_any x w0 _ _ HW.out HK.out).mono ?_
  rintro e w2 ⟨rfl, hb⟩
  have HB2 := Aside0.mk hb
  clear hb z0 z1 z2 z3 hw1
  cases hsh : shapedS x
  · have HRE : Aside0 (res = some 5) := ⟨by rw [← HR.out, HE.out, hsh]; rfl⟩
    clear hsh
    go_wp2_with fail
    refine (must_no 5 (CourtAt.later HC.out (join_below HB1.out HB2.out))).mono ?_
    rintro e w3 ⟨rfl, hb⟩
    have HB3 := Aside0.mk (join_below HB1.out (join_below HB2.out hb))
    clear hb
    go_wp2
    exact ⟨rfl, by rw [HRE.out]; exact CourtPost.bad HB3.out⟩
  · have HRE : Aside0 (orS (namesS T (if x.f0 = 3 then 1 else 0) [] x.f1) (orS (namesS T 2 [] x.f2) (nodeL T x.f3)) = res) := ⟨by rw [← HR.out, HE.out, if_pos hsh]⟩
    clear hsh
    go_wp2_with fail
    refine (must_yes 5 (CourtAt.later HC.out (join_below HB1.out HB2.out))).mono ?_
    rintro e w3 ⟨rfl, hb⟩
    have HB3 := Aside0.mk (join_below HB2.out hb)
    have z0 : w3.cell? ⟨W.heap.size, 0, none⟩ = some (.int .i64 x.f0) := (blk_cell (blk_below HN.out HB3.out) 0).trans rfl
    have z1 : w3.cell? ⟨W.heap.size, 1, none⟩ = some (.slice A1 x.f1.length p1) := (blk_cell (blk_below HN.out HB3.out) 1).trans rfl
    clear hb HB2
    obtain ⟨kd, hkd⟩ : ∃ kd : Int, (if x.f0 = 3 then 1 else 0) = kd := ⟨_, rfl⟩
    have HKD := Aside0.mk hkd
    have h2 : (x.f0 == 3) = true ∧ kd = 1 ∨ (x.f0 == 3) = false ∧ kd = 0 := by
      by_cases c : x.f0 = 3
      · exact .inl ⟨beq_iff_eq.2 c, by rw [← hkd, if_pos c]⟩
      · exact .inr ⟨beq_eq_false_iff_ne.2 c, by rw [← hkd, if_neg c]⟩
    clear hkd
    rcases h2 with ⟨k3, rfl⟩ | ⟨k3, rfl⟩
    all_goals
      have HRE2 := Aside0.mk HRE.out
      rw [HKD.out] at HRE2
      clear HRE HKD
      go_wp2_with fail
      refine (names_any bc AT T ct AR R cr wh A1 x.f1 p1 _ _ (CourtAt.later HC.out (join_below HB1.out HB3.out)) (Kd.C_below HT.out (join_below HB1.out HB3.out)) (Kd.C_below HC1.out.1 (join_below HW.out HB3.out)) HC1.out.2).mono ?_
      rintro e w4 ⟨hb, he⟩
      have HB4 := Aside0.mk (join_below HB3.out hb)
      clear hb z0 z1 k3 HB3
      have HR1 := HRE2.out
      first
        | (obtain ⟨r1, hr1⟩ : ∃ r, namesS T 1 [] x.f1 = r := ⟨_, rfl⟩; rw [hr1] at he HR1)
        | (obtain ⟨r1, hr1⟩ : ∃ r, namesS T 0 [] x.f1 = r := ⟨_, rfl⟩; rw [hr1] at he HR1)
      have HR1' := Aside0.mk HR1
      clear hr1 HR1 HRE2
      cases r1 with
      | some c =>
        have he' : e = .panicked [{ v := faultV c wh, recovered := false }] := he
        subst he'
        have HQ : Aside0 (res = some c) := ⟨HR1'.out.symm⟩
        clear he
        go_wp2
        exact ⟨rfl, by rw [HQ.out]; exact CourtPost.bad (join_below HB1.out HB4.out)⟩
      | none =>
        have he' : e = .returned (.tuple #[]) := he
        subst he'
        have HQ : Aside0 (orS (namesS T 2 [] x.f2) (nodeL T x.f3) = res) := ⟨HR1'.out⟩
        have z2 : w4.cell? ⟨W.heap.size, 2, none⟩ = some (.slice A2 x.f2.length p2) := (blk_cell (blk_below HN.out HB4.out) 2).trans rfl
        clear he HR1'
        go_wp2_with fail
        refine (names_any bc AT T ct AR R cr wh A2 x.f2 p2 _ _ (CourtAt.later HC.out (join_below HB1.out HB4.out)) (Kd.C_below HT.out (join_below HB1.out HB4.out)) (Kd.C_below HC2.out.1 (join_below HW.out HB4.out)) HC2.out.2).mono ?_
        rintro e w5 ⟨hb, he⟩
        have HB5 := Aside0.mk (join_below HB4.out hb)
        clear hb z2 HB4
        obtain ⟨r2, hr2⟩ : ∃ r, namesS T 2 [] x.f2 = r := ⟨_, rfl⟩
        have HQ2 := HQ.out
        rw [hr2] at he HQ2
        have HQ2' := Aside0.mk HQ2
        clear hr2 HQ2 HQ
        cases r2 with
        | some c =>
          have he' : e = .panicked [{ v := faultV c wh, recovered := false }] := he
          subst he'
          have HQ : Aside0 (res = some c) := ⟨HQ2'.out.symm⟩
          clear he
          go_wp2
          exact ⟨rfl, by rw [HQ.out]; exact CourtPost.bad (join_below HB1.out HB5.out)⟩
        | none =>
          have he' : e = .returned (.tuple #[]) := he
          subst he'
          have HQ : Aside0 (nodeL T (x.f3.drop 0) = res) := ⟨HQ2'.out⟩
          have z3 : w5.cell? ⟨W.heap.size, 3, none⟩ = some (.slice A3 x.f3.length p3) := (blk_cell (blk_below HN.out HB5.out) 3).trans rfl
          clear he HQ2'
          go_wp2
          go_loopw [26] (fun i w' => ∃ k : Nat, i = .int .i64 k ∧ k ≤ x.f3.length ∧ Aside0 (nodeL T (x.f3.drop k) = res) ∧ Aside0 (Below w1.heap.size w1 w')) (fun i _ => x.f3.length - (intOf i).toNat)
          case atStart => exact ⟨0, rfl, Nat.zero_le _, HQ, HB5⟩
          case round =>
            clear z3
            obtain ⟨k, rfl, hkl, HI, HBI⟩ := hrel
            by_cases hlt : k < x.f3.length
            · obtain ⟨g, o, rfl, _, hcell⟩ := row_cells HC3.out (by omega) (by decide)
              obtain ⟨y, hy⟩ : ∃ y, x.f3[k]? = some y := ⟨_, List.getElem?_eq_getElem hlt⟩
              obtain ⟨cs, _, hKy, hcc⟩ := hcell k y hy
              have HKy := Aside0.mk hKy
              obtain ⟨D1, d1, D2, d2, D3, d3, rfl, _, _, _, _, _, _⟩ := k37_open hKy
              have v0 := cell_after (join_below HW.out HBI.out) (hcc 0 (.int .i64 y.f0) rfl)
              have v1 := cell_after (join_below HW.out HBI.out) (hcc 1 (.slice D1 y.f1.length d1) rfl)
              have v2 := cell_after (join_below HW.out HBI.out) (hcc 2 (.slice D2 y.f2.length d2) rfl)
              have v3 := cell_after (join_below HW.out HBI.out) (hcc 3 (.slice D3 y.f3.length d3) rfl)
              rw [Nat.add_zero] at v0
              simp only [show kPt.sz = 4 from rfl] at v0 v1 v2 v3
              have hdk : x.f3.drop k = y :: x.f3.drop (k + 1) := by
                rw [List.drop_eq_getElem_cons hlt]
                rw [List.getElem?_eq_getElem hlt] at hy
                rw [Option.some.inj hy]
              have hI2 := HI.out
              rw [hdk, nodeL] at hI2
              have HI2 := Aside0.mk hI2
              have HY := Aside0.mk (HX.out y (List.mem_of_getElem? hy))
              clear hcell hcc hKy hy hdk hI2 HI
              go_wp2_with fail
              refine (HY.out bc AT ct AR R cr wh w0 _ _ (join_below HW.out (below_alloc HBI.out _)) (CourtAt.later HC.out (join_below HB1.out (below_alloc HBI.out _))) (Kd.C_below HT.out (join_below HB1.out (below_alloc HBI.out _))) HKy.out).mono ?_
              rintro e w6 ⟨hb, he⟩
              have HB6 := Aside0.mk (join_below (below_alloc HBI.out _) hb)
              clear hb v0 v1 v2 v3
              obtain ⟨r3, hr3⟩ : ∃ r, nodeR T y = r := ⟨_, rfl⟩
              have HI3 := HI2.out
              rw [hr3] at he HI3
              have HI4 := Aside0.mk HI3
              clear hr3 HI3 HI2
              cases r3 with
              | some c =>
                have he' : e = .panicked [{ v := faultV c wh, recovered := false }] := he
                subst he'
                have HQ : Aside0 (res = some c) := ⟨HI4.out.symm⟩
                clear he
                go_wp2
                exact ⟨rfl, by rw [HQ.out]; exact CourtPost.bad (join_below HB1.out HB6.out)⟩
              | none =>
                have he' : e = .returned (.tuple #[]) := he
                subst he'
                have HQ : Aside0 (nodeL T (x.f3.drop (k + 1)) = res) := ⟨HI4.out⟩
                clear he HI4
                go_wp2
                go_roundw
                case rel => exact ⟨k + 1, by go_num, by omega, HQ, HB6⟩
                case measure => simp [intOf]; omega
            · have e : k = x.f3.length := by omega
              have HQ : Aside0 (res = none) := ⟨by rw [← HI.out, e, List.drop_length]; rfl⟩
              clear e
              go_wp2
              first | go_end0 | refine bodyPost_ret (results_none rfl _ _ _) rfl ?_
              rw [HQ.out]
              exact CourtPost.ok (join_below HB1.out HBI.out)
end Go.Proofs.YthdfmbmbjpmlaaaDoor.Rn
namespace Go.Proofs.YthdfmbmbjpmlaaaDoor.Rn
open Go.RowKit Go.Proofs.YthdfmbmbjpmlaaaDoorW.PrintWords Go.Proofs.YthdfmbmbjpmlaaaDoorW.PrintLast Go.Proofs.YthdfmbmbjpmlaaaDoorW.PrintMore
attribute [local go_sem] max2_int min2_int max_two min_two max_three min_three max_four min_four   -- for this text's walks alone
set_option linter.unusedVariables false
set_option linter.unusedSimpArgs false
/-! ### regex_parts: function 60 -/
mutual
def regex_parts.j0 : Nat → Int → Bool → Option (Int)
  | 0, _, _ => none
  | k + 1, x3, x4 => if x4 = true then (some 0) else (if x3 = 3 then (regex_parts.j1 k x3 (x3 == 3)) else (regex_parts.j1 k x3 (x3 == 4)))
def regex_parts.j1 : Nat → Int → Bool → Option (Int)
  | 0, _, _ => none
  | k + 1, x3, x8 => if x8 = true then (some 2) else (if x3 = 5 then (some 1) else (some (-1)))
end
def regex_parts.f (k : Nat) (a0 : Int) : Option (Int) := if a0 = 0 then (regex_parts.j0 k a0 (a0 == 0)) else (if a0 = 1 then (regex_parts.j0 k a0 (a0 == 1)) else (regex_parts.j0 k a0 (a0 == 2)))
theorem regex_parts.mono_l : ∀ k, (∀ y0 y1, LeO (regex_parts.j0 k y0 y1) (regex_parts.j0 (k + 1) y0 y1)) ∧ (∀ y0 y1, LeO (regex_parts.j1 k y0 y1) (regex_parts.j1 (k + 1) y0 y1))
  | 0 => ⟨fun _ _ r h => by simp [regex_parts.j0] at h, fun _ _ r h => by simp [regex_parts.j1] at h⟩
  | k + 1 => by
    obtain ⟨ih0, ih1⟩ := regex_parts.mono_l k
    refine ⟨?_, ?_⟩
    · intro y0 y1
      unfold regex_parts.j0
      repeat' first
      | (with_reducible exact ih0 _ _)
      | (with_reducible exact ih1 _ _)
      | (with_reducible exact LeO.refl _)
      | (with_reducible exact LeO.none _)
      | (with_reducible refine LeO.ite ?_ ?_)
      | (with_reducible refine LeO.bind ?_ (fun _ => ?_))
      | exact ih0 _ _
      | exact ih1 _ _
      | exact LeO.none _
      | refine LeO.ite ?_ ?_
      | refine LeO.bind ?_ (fun _ => ?_)
    · intro y0 y1
      unfold regex_parts.j1
      repeat' first
      | (with_reducible exact ih0 _ _)
      | (with_reducible exact ih1 _ _)
      | (with_reducible exact LeO.refl _)
      | (with_reducible exact LeO.none _)
      | (with_reducible refine LeO.ite ?_ ?_)
      | (with_reducible refine LeO.bind ?_ (fun _ => ?_))
      | exact ih0 _ _
      | exact ih1 _ _
      | exact LeO.none _
      | refine LeO.ite ?_ ?_
      | refine LeO.bind ?_ (fun _ => ?_)
theorem regex_parts.mono : ∀ a0 k, LeO (regex_parts.f k a0) (regex_parts.f (k + 1) a0) := by
  intro a0 k
  obtain ⟨ih0, ih1⟩ := regex_parts.mono_l k
  unfold regex_parts.f
  repeat' first
      | (with_reducible exact ih0 _ _)
      | (with_reducible exact ih1 _ _)
      | (with_reducible exact LeO.refl _)
      | (with_reducible exact LeO.none _)
      | (with_reducible refine LeO.ite ?_ ?_)
      | (with_reducible refine LeO.bind ?_ (fun _ => ?_))
      | exact ih0 _ _
      | exact ih1 _ _
      | exact LeO.none _
      | refine LeO.ite ?_ ?_
      | refine LeO.bind ?_ (fun _ => ?_)
set_option maxHeartbeats 8000000 in
set_option maxRecDepth 100000 in
theorem regex_parts.calls (k : Nat) (a0 : Int) (r : Int) (w : World) (h : regex_parts.f k a0 = some r) :
    Calls Tryd.prog 60 #[.int .i64 a0] w fun e w' => e = .returned (.int .i64 r) ∧ Drawn0 w w' := by
  have H : (if a0 = 0 then (regex_parts.j0 k a0 (a0 == 0)) else (if a0 = 1 then (regex_parts.j0 k a0 (a0 == 1)) else (regex_parts.j0 k a0 (a0 == 2)))) = some r := h
  clear h
  have HC2 := Aside0.mk H
  clear H
  go_enter Tryd.func60, Tryd.ntmps60
  go_upto_if 4 with (fail)
  go_cut [4] (fun v4 wc => ∃ (kq : Nat) (x4_1 : Bool), v4 = .bool x4_1 ∧ Aside0 (regex_parts.j0 kq a0 x4_1 = some r) ∧ Aside0 (kq ≤ k) ∧ Drawn0 w wc)
  case first =>
    have H := HC2.out
    clear HC2
    by_cases c3 : a0 = 0
    · rw [if_pos c3] at H
      have c3b0 : (a0 == 0) = true := beq_iff_eq.mpr c3
      have c3b1 : (a0 != 0) = false := bne_eq_false_iff_eq.mpr c3
      clear c3
      (first | rw [c3b0] | (simp only [i64_w, i32_w]; rw [c3b0]) | skip)
      have H' := Aside0.mk H
      clear H
      go_wp2
      go_meet
      case rel => exact ⟨_, ((a0 == 0)), (by first | rfl | (simp; done) | (simp [*]; done)), H', ⟨by first | omega | exact Nat.le_refl _⟩, by repeat (first | exact Drawn0.refl _ | apply Drawn0.step)⟩
    · rw [if_neg c3] at H
      have c3b0 : (a0 == 0) = false := beq_eq_false_iff_ne.mpr c3
      have c3b1 : (a0 != 0) = true := bne_iff_ne.mpr c3
      (first | rw [c3b0] | (simp only [i64_w, i32_w]; rw [c3b0]) | skip)
      by_cases c4 : a0 = 1
      · rw [if_pos c4] at H
        have c4b0 : (a0 == 1) = true := beq_iff_eq.mpr c4
        have c4b1 : (a0 != 1) = false := bne_eq_false_iff_eq.mpr c4
        clear c4
        have H' := Aside0.mk H
        clear H
        go_wp2
        go_meet
        case rel => exact ⟨_, ((a0 == 1)), (by first | rfl | (simp; done) | (simp [*]; done)), H', ⟨by first | omega | exact Nat.le_refl _⟩, by repeat (first | exact Drawn0.refl _ | apply Drawn0.step)⟩
      · rw [if_neg c4] at H
        have c4b0 : (a0 == 1) = false := beq_eq_false_iff_ne.mpr c4
        have c4b1 : (a0 != 1) = true := bne_iff_ne.mpr c4
        have H' := Aside0.mk H
        clear H
        go_wp2
        go_meet
        case rel => exact ⟨_, ((a0 == 2)), (by first | rfl | (simp; done) | (simp [*]; done)), H', ⟨by first | omega | exact Nat.le_refl _⟩, by repeat (first | exact Drawn0.refl _ | apply Drawn0.step)⟩
  case rest =>
    clear HC2
    try clear p2
    try clear c3
    try clear c3b0
    try clear c3b1
    try clear c4
    try clear c4b0
    try clear c4b1
    obtain ⟨kq, x4_1, rfl, HA, HJ1, ⟨mc1, rfl⟩⟩ := hcut
    cases kq with
    | zero => exact absurd HA.out (by simp [regex_parts.j0])
    | succ kj1 =>
      have H := HA.out
      clear HA
      simp only [regex_parts.j0] at H
      by_cases c5 : x4_1 = true
      · subst c5
        have H1 : (some 0) = some r := by rw [if_pos rfl] at H; exact H
        clear H
        have H := H1
        clear H1
        obtain rfl := Option.some.inj H
        go_wp2
        go_ret
        exact ⟨by first | rfl | (simp; done) | (simp [*]; done), by repeat (first | exact Drawn0.refl _ | apply Drawn0.step)⟩
      · replace c5 := Bool.eq_false_iff.mpr c5
        subst c5
        have H1 : (if a0 = 3 then (regex_parts.j1 kj1 a0 (a0 == 3)) else (regex_parts.j1 kj1 a0 (a0 == 4))) = some r := by rw [if_neg (show ¬ (false = true) by decide)] at H; exact H
        clear H
        have H := H1
        clear H1
        have HC6 := Aside0.mk H
        clear H
        go_upto_if 8 with (fail)
        go_cut [8] (fun v8 wc => ∃ (kq : Nat) (x8_5 : Bool), v8 = .bool x8_5 ∧ Aside0 (regex_parts.j1 kq a0 x8_5 = some r) ∧ Aside0 (kq ≤ kj1) ∧ Drawn0 w wc)
        case first =>
          have H := HC6.out
          clear HC6
          by_cases c7 : a0 = 3
          · rw [if_pos c7] at H
            have c7b0 : (a0 == 3) = true := beq_iff_eq.mpr c7
            have c7b1 : (a0 != 3) = false := bne_eq_false_iff_eq.mpr c7
            clear c7
            (first | rw [c7b0] | (simp only [i64_w, i32_w]; rw [c7b0]) | skip)
            have H' := Aside0.mk H
            clear H
            go_wp2
            go_meet
            case rel => exact ⟨_, ((a0 == 3)), (by first | rfl | (simp; done) | (simp [*]; done)), H', ⟨by have := HJ1.out; first | omega | exact Nat.le_refl _⟩, by repeat (first | exact Drawn0.refl _ | apply Drawn0.step)⟩
          · rw [if_neg c7] at H
            have c7b0 : (a0 == 3) = false := beq_eq_false_iff_ne.mpr c7
            have c7b1 : (a0 != 3) = true := bne_iff_ne.mpr c7
            (first | rw [c7b0] | (simp only [i64_w, i32_w]; rw [c7b0]) | skip)
            have H' := Aside0.mk H
            clear H
            go_wp2
            go_meet
            case rel => exact ⟨_, ((a0 == 4)), (by first | rfl | (simp; done) | (simp [*]; done)), H', ⟨by have := HJ1.out; first | omega | exact Nat.le_refl _⟩, by repeat (first | exact Drawn0.refl _ | apply Drawn0.step)⟩
        case rest =>
          clear HC6
          try clear c1
          try clear p2
          try clear c3
          try clear c3b0
          try clear c3b1
          try clear c4
          try clear c4b0
          try clear c4b1
          try clear c5
          try clear c6
          try clear c7
          try clear c7b0
          try clear c7b1
          try clear p2
          obtain ⟨kq, x8_5, rfl, HA, HJ5, ⟨mc5, rfl⟩⟩ := hcut
          cases kq with
          | zero => exact absurd HA.out (by simp [regex_parts.j1])
          | succ kj5 =>
            have H := HA.out
            clear HA
            simp only [regex_parts.j1] at H
            by_cases c8 : x8_5 = true
            · subst c8
              have H1 : (some 2) = some r := by rw [if_pos rfl] at H; exact H
              clear H
              have H := H1
              clear H1
              obtain rfl := Option.some.inj H
              go_wp2
              go_ret
              exact ⟨by first | rfl | (simp; done) | (simp [*]; done), by repeat (first | exact Drawn0.refl _ | apply Drawn0.step)⟩
            · replace c8 := Bool.eq_false_iff.mpr c8
              subst c8
              have H1 : (if a0 = 5 then (some 1) else (some (-1))) = some r := by rw [if_neg (show ¬ (false = true) by decide)] at H; exact H
              clear H
              have H := H1
              clear H1
              by_cases c9 : a0 = 5
              · rw [if_pos c9] at H
                have c9b0 : (a0 == 5) = true := beq_iff_eq.mpr c9
                have c9b1 : (a0 != 5) = false := bne_eq_false_iff_eq.mpr c9
                clear c9
                obtain rfl := Option.some.inj H
                go_wp2
                go_ret
                exact ⟨by first | rfl | (simp; done) | (simp [*]; done), by repeat (first | exact Drawn0.refl _ | apply Drawn0.step)⟩
              · rw [if_neg c9] at H
                have c9b0 : (a0 == 5) = false := beq_eq_false_iff_ne.mpr c9
                have c9b1 : (a0 != 5) = true := bne_iff_ne.mpr c9
                obtain rfl := Option.some.inj H
                go_wp2
                go_ret
                exact ⟨by first | rfl | (simp; done) | (simp [*]; done), by repeat (first | exact Drawn0.refl _ | apply Drawn0.step)⟩

/-! ### regex_empty: function 54 -/
mutual
def regex_empty.j0 : Nat → Int → Bool → Int → List (S56) → List (S48) → Option (Bool)
  | 0, _, _, _, _, _ => none
  | k + 1, x4, x5, x301000, x301001, x301002 => if x5 = true then (some true) else (if x4 = 3 then (if 0 < (x301002.length : Int) then ((regex_empty.f k ((rd_T48 x301002 0).f0) ((rd_T48 x301002 0).f1) ((rd_T48 x301002 0).f2)).bind fun t302 => (if t302 = true then (if 1 < (x301002.length : Int) then ((regex_empty.f k ((rd_T48 x301002 1).f0) ((rd_T48 x301002 1).f1) ((rd_T48 x301002 1).f2)).bind fun t304 => (some t304)) else (none)) else (some false))) else (none)) else (if x4 = 4 then (if 0 < (x301002.length : Int) then ((regex_empty.f k ((rd_T48 x301002 0).f0) ((rd_T48 x301002 0).f1) ((rd_T48 x301002 0).f2)).bind fun t306 => (if t306 = true then (some true) else (if 1 < (x301002.length : Int) then ((regex_empty.f k ((rd_T48 x301002 1).f0) ((rd_T48 x301002 1).f1) ((rd_T48 x301002 1).f2)).bind fun t308 => (some t308)) else (none)))) else (none)) else (some false)))
def regex_empty.f : Nat → Int → List (S56) → List (S48) → Option (Bool)
  | 0, _, _, _ => none
  | k + 1, a0_0, l0_1, l0_2 => if a0_0 = 1 then (regex_empty.j0 k a0_0 (a0_0 == 1) a0_0 l0_1 l0_2) else (regex_empty.j0 k a0_0 (a0_0 == 5) a0_0 l0_1 l0_2)
end
theorem regex_empty.mono_l : ∀ k, (∀ y0 y1 y2, LeO (regex_empty.f k y0 y1 y2) (regex_empty.f (k + 1) y0 y1 y2)) ∧ (∀ y0 y1 y2 y3 y4, LeO (regex_empty.j0 k y0 y1 y2 y3 y4) (regex_empty.j0 (k + 1) y0 y1 y2 y3 y4))
  | 0 => ⟨fun _ _ _ r h => by simp [regex_empty.f] at h, fun _ _ _ _ _ r h => by simp [regex_empty.j0] at h⟩
  | k + 1 => by
    obtain ⟨ih0, ih1⟩ := regex_empty.mono_l k
    refine ⟨?_, ?_⟩
    · intro y0 y1 y2
      unfold regex_empty.f
      repeat' first
      | (with_reducible exact ih0 _ _ _)
      | (with_reducible exact ih1 _ _ _ _ _)
      | (with_reducible exact LeO.refl _)
      | (with_reducible exact LeO.none _)
      | (with_reducible refine LeO.ite ?_ ?_)
      | (with_reducible refine LeO.bind ?_ (fun _ => ?_))
      | exact ih0 _ _ _
      | exact ih1 _ _ _ _ _
      | exact LeO.none _
      | refine LeO.ite ?_ ?_
      | refine LeO.bind ?_ (fun _ => ?_)
    · intro y0 y1 y2 y3 y4
      unfold regex_empty.j0
      repeat' first
      | (with_reducible exact ih0 _ _ _)
      | (with_reducible exact ih1 _ _ _ _ _)
      | (with_reducible exact LeO.refl _)
      | (with_reducible exact LeO.none _)
      | (with_reducible refine LeO.ite ?_ ?_)
      | (with_reducible refine LeO.bind ?_ (fun _ => ?_))
      | exact ih0 _ _ _
      | exact ih1 _ _ _ _ _
      | exact LeO.none _
      | refine LeO.ite ?_ ?_
      | refine LeO.bind ?_ (fun _ => ?_)
theorem regex_empty.mono : ∀ a0 a1 a2 k, LeO (regex_empty.f k a0 a1 a2) (regex_empty.f (k + 1) a0 a1 a2) := by
  intro a0 a1 a2 k
  obtain ⟨ih0, ih1⟩ := regex_empty.mono_l k
  exact ih0 a0 a1 a2
set_option maxHeartbeats 8000000 in
set_option maxRecDepth 100000 in
theorem regex_empty.calls (k : Nat) : ∀ (a0_0 : Int) (A0_1 : Option Addr) (c0_1 : Nat) (l0_1 : List (S56)) (A0_2 : Option Addr) (c0_2 : Nat) (l0_2 : List (S48)) (r : Bool) (w : World) (hr0_1 : Kd.C k56 w A0_1 l0_1.length l0_1) (hc0_1 : l0_1.length ≤ c0_1) (hr0_2 : Kd.C k48 w A0_2 l0_2.length l0_2) (hc0_2 : l0_2.length ≤ c0_2) (h : regex_empty.f k a0_0 l0_1 l0_2 = some r),
    Calls Tryd.prog 54 #[.agg #[.int .i64 a0_0, .slice A0_1 l0_1.length c0_1, .slice A0_2 l0_2.length c0_2]] w fun e w' => e = .returned (.bool r) ∧ Below w.heap.size w w' := by
  induction k using Nat.strongRecOn with
  | _ k ih =>
  intro a0_0 A0_1 c0_1 l0_1 A0_2 c0_2 l0_2 r w hr0_1 hc0_1 hr0_2 hc0_2 h
  cases k with
  | zero => exact absurd h (by simp [regex_empty.f])
  | succ k =>
  simp only [regex_empty.f] at h
  have hu48 := Tryd.underlying48
  have HR0_1 := Aside0.mk hr0_1
  have HC0_1 := Aside0.mk hc0_1
  clear hr0_1 hc0_1
  have HR0_2 := Aside0.mk hr0_2
  have HC0_2 := Aside0.mk hc0_2
  clear hr0_2 hc0_2
  have HB := Aside0.mk (Below.refl w.heap.size w)
  have H : (if a0_0 = 1 then (regex_empty.j0 k a0_0 (a0_0 == 1) a0_0 l0_1 l0_2) else (regex_empty.j0 k a0_0 (a0_0 == 5) a0_0 l0_1 l0_2)) = some r := h
  clear h
  have HC2 := Aside0.mk H
  clear H
  go_enter Tryd.func54, Tryd.ntmps54
  go_upto_if 5 with (first | ((with_reducible refine gate_dst (N := 1) rfl ?_); refine box_event ?hg (N := 1) ?hd (cs := #[.int .i64 a0_0, .slice A0_1 l0_1.length c0_1, .slice A0_2 l0_2.length c0_2]) (t := 48) ?hr ?_; (case hd => rfl); (case hg => rfl); (case hr => first | (go_simp; done) | (go_simp; rfl)); intro gb300 hg w3 hbox hb; have n0_ := Aside0.mk (below_step (by repeat (first | (with_reducible first | exact HB.out | apply below_alloc | apply pw_below_drewN | apply below_drew1) | exact HB.out)) hb); have n1_ := Aside0.mk (hbox); have n2_ := Aside0.mk ((by rw [hg]; exact (below_size (by repeat (first | (with_reducible first | exact HB.out | apply below_alloc | apply pw_below_drewN | apply below_drew1) | exact HB.out))) : w.heap.size ≤ gb300)); have n3_ := Aside0.mk ((by rw [hg]; exact (below_size (by repeat (first | (with_reducible first | exact HB.out | apply below_alloc | apply pw_below_drewN | apply below_drew1) | exact HB.out))) : w.heap.size ≤ gb300)); clear HB; have HB := n0_; have BK300 := n1_; have GW300 := n2_; have GE300 := n3_; clear n0_ n1_ n2_ n3_; clear hb hbox hg; have hcz4_0 : w3.cell? ⟨gb300, 0, none⟩ = some (.int .i64 a0_0) := (blk_cell BK300.out 0).trans rfl; have hcz4_1 : w3.cell? ⟨gb300, 1, none⟩ = some (.slice A0_1 l0_1.length c0_1) := (blk_cell BK300.out 1).trans rfl; have hcz4_2 : w3.cell? ⟨gb300, 2, none⟩ = some (.slice A0_2 l0_2.length c0_2) := (blk_cell BK300.out 2).trans rfl; have hfz4_0 := blk_frozen BK300.out 0; have hfz4_1 := blk_frozen BK300.out 1; have hfz4_2 := blk_frozen BK300.out 2))
  (try simp only [Act.put, List.setIfInBounds_toArray, List.set_cons_zero, List.set_cons_succ])
  go_cut [5] (fun v5 wc => ∃ (kq : Nat) (x5_1 : Bool), v5 = .bool x5_1 ∧ Aside0 (regex_empty.j0 kq a0_0 x5_1 a0_0 l0_1 l0_2 = some r) ∧ Aside0 (kq ≤ k) ∧ Aside0 (wc.heap[gb300]? = some (.cells #[.int .i64 a0_0, (.slice A0_1 l0_1.length c0_1), (.slice A0_2 l0_2.length c0_2)] 48 (0, 0))) ∧ Aside0 (Below w.heap.size w wc))
  case first =>
    have H := HC2.out
    clear HC2
    by_cases c5 : a0_0 = 1
    · rw [if_pos c5] at H
      have c5b0 : (a0_0 == 1) = true := beq_iff_eq.mpr c5
      have c5b1 : (a0_0 != 1) = false := bne_eq_false_iff_eq.mpr c5
      clear c5
      (first | rw [c5b0] | (simp only [i64_w, i32_w]; rw [c5b0]) | skip)
      have H' := Aside0.mk H
      clear H
      go_wp2
      go_meet
      case rel => exact ⟨_, ((a0_0 == 1)), (by first | rfl | (simp; done) | (simp [*]; done)), H', ⟨by first | omega | exact Nat.le_refl _⟩, ⟨by (with_reducible repeat (first | refine blk_drewN ?_ _ | refine blk_drew ?_ | refine blk_alloc ?_ _)); exact BK300.out⟩, ⟨by repeat (first | (with_reducible first | exact HB.out | apply below_alloc | apply pw_below_drewN | apply below_drew1 | refine below_set ?_ GE300.out) | exact HB.out)⟩⟩
    · rw [if_neg c5] at H
      have c5b0 : (a0_0 == 1) = false := beq_eq_false_iff_ne.mpr c5
      have c5b1 : (a0_0 != 1) = true := bne_iff_ne.mpr c5
      (first | rw [c5b0] | (simp only [i64_w, i32_w]; rw [c5b0]) | skip)
      have H' := Aside0.mk H
      clear H
      go_wp2
      go_meet
      case rel => exact ⟨_, ((a0_0 == 5)), (by first | rfl | (simp; done) | (simp [*]; done)), H', ⟨by first | omega | exact Nat.le_refl _⟩, ⟨by (with_reducible repeat (first | refine blk_drewN ?_ _ | refine blk_drew ?_ | refine blk_alloc ?_ _)); exact BK300.out⟩, ⟨by repeat (first | (with_reducible first | exact HB.out | apply below_alloc | apply pw_below_drewN | apply below_drew1 | refine below_set ?_ GE300.out) | exact HB.out)⟩⟩
  case rest =>
    clear HC2
    try clear p2
    try clear c5
    try clear c5b0
    try clear c5b1
    try clear hcz4_0
    try clear hcz4_1
    try clear hcz4_2
    try clear hfz4_0
    try clear hfz4_1
    try clear hfz4_2
    obtain ⟨kq, x5_1, rfl, HA, HJ1, BK300, HB⟩ := hcut
    cases kq with
    | zero => exact absurd HA.out (by simp [regex_empty.j0])
    | succ kj1 =>
      have H := HA.out
      clear HA
      simp only [regex_empty.j0] at H
      by_cases c6 : x5_1 = true
      · subst c6
        have H1 : (some true) = some r := by rw [if_pos rfl] at H; exact H
        clear H
        have H := H1
        clear H1
        obtain rfl := Option.some.inj H
        go_wp2
        go_ret
        exact ⟨by first | rfl | (simp [errW_none, errW_some] <;> rfl) | (simp [*, errW_none, errW_some] <;> rfl), by repeat (first | (with_reducible first | exact HB.out | apply below_alloc | apply pw_below_drewN | apply below_drew1 | refine below_set ?_ GE300.out) | exact HB.out)⟩
      · replace c6 := Bool.eq_false_iff.mpr c6
        subst c6
        have H1 : (if a0_0 = 3 then (if 0 < (l0_2.length : Int) then ((regex_empty.f kj1 ((rd_T48 l0_2 0).f0) ((rd_T48 l0_2 0).f1) ((rd_T48 l0_2 0).f2)).bind fun t302 => (if t302 = true then (if 1 < (l0_2.length : Int) then ((regex_empty.f kj1 ((rd_T48 l0_2 1).f0) ((rd_T48 l0_2 1).f1) ((rd_T48 l0_2 1).f2)).bind fun t304 => (some t304)) else (none)) else (some false))) else (none)) else (if a0_0 = 4 then (if 0 < (l0_2.length : Int) then ((regex_empty.f kj1 ((rd_T48 l0_2 0).f0) ((rd_T48 l0_2 0).f1) ((rd_T48 l0_2 0).f2)).bind fun t306 => (if t306 = true then (some true) else (if 1 < (l0_2.length : Int) then ((regex_empty.f kj1 ((rd_T48 l0_2 1).f0) ((rd_T48 l0_2 1).f1) ((rd_T48 l0_2 1).f2)).bind fun t308 => (some t308)) else (none)))) else (none)) else (some false))) = some r := by rw [if_neg (show ¬ (false = true) by decide)] at H; exact H
        clear H
        have H := H1
        clear H1
        by_cases c7 : a0_0 = 3
        · rw [if_pos c7] at H
          have c7b0 : (a0_0 == 3) = true := beq_iff_eq.mpr c7
          have c7b1 : (a0_0 != 3) = false := bne_eq_false_iff_eq.mpr c7
          clear c7
          by_cases c8 : 0 < (l0_2.length : Int)
          · rw [if_pos c8] at H
            have c8b0 : decide (0 < (l0_2.length : Int)) = true := decide_eq_true c8
            have c8b1 : decide (0 < l0_2.length) = true := decide_eq_true (by omega)
            clear c8
            replace H := Option.bind_eq_some_iff.mp H
            obtain ⟨t302, A90, H⟩ := H
            replace H : (if t302 = true then (if 1 < (l0_2.length : Int) then ((regex_empty.f kj1 ((rd_T48 l0_2 1).f0) ((rd_T48 l0_2 1).f1) ((rd_T48 l0_2 1).f2)).bind fun t304 => (some t304)) else (none)) else (some false)) = some r := H
            have A9 := Aside0.mk A90
            clear A90
            by_cases c10 : t302 = true
            · subst c10
              have H1 : (if 1 < (l0_2.length : Int) then ((regex_empty.f kj1 ((rd_T48 l0_2 1).f0) ((rd_T48 l0_2 1).f1) ((rd_T48 l0_2 1).f2)).bind fun t304 => (some t304)) else (none)) = some r := by rw [if_pos rfl] at H; exact H
              clear H
              have H := H1
              clear H1
              by_cases c11 : 1 < (l0_2.length : Int)
              · rw [if_pos c11] at H
                have c11b0 : decide (1 < (l0_2.length : Int)) = true := decide_eq_true c11
                have c11b1 : decide (1 < l0_2.length) = true := decide_eq_true (by omega)
                clear c11
                replace H := Option.bind_eq_some_iff.mp H
                obtain ⟨t304, A120, H⟩ := H
                replace H : (some t304) = some r := H
                have A12 := Aside0.mk A120
                clear A120
                obtain rfl := Option.some.inj H
                have hcz13_0 : wc.cell? ⟨gb300, 0, none⟩ = some (.int .i64 a0_0) := (blk_cell BK300.out 0).trans rfl
                have hcz13_1 : wc.cell? ⟨gb300, 1, none⟩ = some (.slice A0_1 l0_1.length c0_1) := (blk_cell BK300.out 1).trans rfl
                have hcz13_2 : wc.cell? ⟨gb300, 2, none⟩ = some (.slice A0_2 l0_2.length c0_2) := (blk_cell BK300.out 2).trans rfl
                have hfz13_0 := blk_frozen BK300.out 0
                have hfz13_1 := blk_frozen BK300.out 1
                have hfz13_2 := blk_frozen BK300.out 2
                have p301 : 0 ≤ (0 : Int) := (by omega)
                have q301 : 0 < (l0_2.length : Int) := of_decide_eq_true (by first | (with_reducible assumption) | assumption)
                obtain ⟨ad301, A301_1, c301_1, A301_2, c301_2, e301, hx301_0, hx301_1, hx301_2, hl301_1, hi301_1, hl301_2, hi301_2⟩ := at_T48 HR0_2.out 0 p301 q301
                cases e301
                have qi301 : (0 < l0_2.length) = True := eq_true (by omega)
                (try rw [show ((0 : Int)).toNat = 0 from rfl] at hx301_0)
                (try rw [show 0 * 3 = 0 from rfl] at hx301_0)
                (try rw [Addr.add_zero'] at hx301_0)
                (try rw [show ((0 : Int)).toNat = 0 from rfl] at hx301_1)
                (try rw [show 0 * 3 = 0 from rfl] at hx301_1)
                (try rw [Addr.add_zero'] at hx301_1)
                (try rw [show ((0 : Int)).toNat = 0 from rfl] at hx301_2)
                (try rw [show 0 * 3 = 0 from rfl] at hx301_2)
                (try rw [Addr.add_zero'] at hx301_2)
                replace hx301_0 := (HB.out.cell (World.block_lt_of_cell? w _ hx301_0)).trans hx301_0
                replace hx301_1 := (HB.out.cell (World.block_lt_of_cell? w _ hx301_1)).trans hx301_1
                replace hx301_2 := (HB.out.cell (World.block_lt_of_cell? w _ hx301_2)).trans hx301_2
                have HR301_1 := Aside0.mk hi301_1
                have HC301_1 := Aside0.mk hl301_1
                clear hi301_1 hl301_1
                have HR301_2 := Aside0.mk hi301_2
                have HC301_2 := Aside0.mk hl301_2
                clear hi301_2 hl301_2
                replace p301 := eq_true p301
                replace q301 := eq_true q301
                go_wp2_with (first | ((with_reducible refine gate_callee (f := 54) rfl ?_); refine goesL_ (some 14) rfl rfl Tryd.func54 (by kernel_rfl) rfl #[.agg #[.int .i64 ((rd_T48 l0_2 0).f0), .slice A301_1 ((rd_T48 l0_2 0).f1).length c301_1, .slice A301_2 ((rd_T48 l0_2 0).f2).length c301_2]] rfl (by (try simp only [List.map_toArray, List.map_cons, List.map_nil]); first | done | rfl | (simp only [List.length_drop, List.length_take]; rfl)) ?_; (with_reducible refine (ih kj1 (by have := HJ1.out; omega) ((rd_T48 l0_2 0).f0) _ _ ((rd_T48 l0_2 0).f1) _ _ ((rd_T48 l0_2 0).f2) true _ ?side1 ?side2 ?side3 ?side4 A9.out).mono ?_); (case side1 => repeat (first | exact (Kd.C_below HR301_1.out HB.out) | (with_reducible refine Kd.C_alloc ?_ _) | (with_reducible refine Kd.C_drewN ?_ _) | (with_reducible refine Kd.C_drew ?_))); (case side2 => exact HC301_1.out); (case side3 => repeat (first | exact (Kd.C_below HR301_2.out HB.out) | (with_reducible refine Kd.C_alloc ?_ _) | (with_reducible refine Kd.C_drewN ?_ _) | (with_reducible refine Kd.C_drew ?_))); (case side4 => exact HC301_2.out); rintro e w14 ⟨rfl, hb⟩; refine ⟨_, rfl, ?_⟩; have n0_ := Aside0.mk (blk_below (g := gb300) (o := .cells #[.int .i64 a0_0, .slice A0_1 l0_1.length c0_1, .slice (some ad301) l0_2.length c0_2] 48 (0, 0)) (by (with_reducible repeat (first | refine blk_drewN ?_ _ | refine blk_drew ?_ | refine blk_alloc ?_ _)); exact BK300.out) hb); have n1_ := Aside0.mk (below_step (by repeat (first | (with_reducible first | exact HB.out | apply below_alloc | apply pw_below_drewN | apply below_drew1 | refine below_set ?_ GE300.out) | exact HB.out)) hb); clear BK300; clear HB; have BK300 := n0_; have HB := n1_; clear n0_ n1_; (try clear hb); (try clear hb2); (try clear hk); (try clear hi); have hcz15_0 : w14.cell? ⟨gb300, 0, none⟩ = some (.int .i64 a0_0) := (blk_cell BK300.out 0).trans rfl; have hcz15_1 : w14.cell? ⟨gb300, 1, none⟩ = some (.slice A0_1 l0_1.length c0_1) := (blk_cell BK300.out 1).trans rfl; have hcz15_2 : w14.cell? ⟨gb300, 2, none⟩ = some (.slice (some ad301) l0_2.length c0_2) := (blk_cell BK300.out 2).trans rfl; have hfz15_0 := blk_frozen BK300.out 0; have hfz15_1 := blk_frozen BK300.out 1; have hfz15_2 := blk_frozen BK300.out 2; have p303 : 0 ≤ (1 : Int) := (by omega); have q303 : 1 < (l0_2.length : Int) := of_decide_eq_true (by first | (with_reducible assumption) | assumption); obtain ⟨ad303, A303_1, c303_1, A303_2, c303_2, e303, hx303_0, hx303_1, hx303_2, hl303_1, hi303_1, hl303_2, hi303_2⟩ := at_T48 HR0_2.out 1 p303 q303; obtain rfl : ad301 = ad303 := (by injection e303); (try simp only [show (1 : Int).toNat = 1 from rfl, Nat.reduceMul, Nat.reduceEqDiff, Go.Addr.add, ↓reduceIte] at hx303_0); (try simp only [show (1 : Int).toNat = 1 from rfl, Nat.reduceMul, Nat.reduceEqDiff, Go.Addr.add, ↓reduceIte] at hx303_1); (try simp only [show (1 : Int).toNat = 1 from rfl, Nat.reduceMul, Nat.reduceEqDiff, Go.Addr.add, ↓reduceIte] at hx303_2); have qi303 : (1 < l0_2.length) = True := eq_true (by omega); (try rw [show ((1 : Int)).toNat = 1 from rfl] at hx303_0); (try rw [show 1 * 3 = 3 from rfl] at hx303_0); (try rw [show ((1 : Int)).toNat = 1 from rfl] at hx303_1); (try rw [show 1 * 3 = 3 from rfl] at hx303_1); (try rw [show ((1 : Int)).toNat = 1 from rfl] at hx303_2); (try rw [show 1 * 3 = 3 from rfl] at hx303_2); replace hx303_0 := (HB.out.cell (World.block_lt_of_cell? w _ hx303_0)).trans hx303_0; replace hx303_1 := (HB.out.cell (World.block_lt_of_cell? w _ hx303_1)).trans hx303_1; replace hx303_2 := (HB.out.cell (World.block_lt_of_cell? w _ hx303_2)).trans hx303_2; have HR303_1 := Aside0.mk hi303_1; have HC303_1 := Aside0.mk hl303_1; clear hi303_1 hl303_1; have HR303_2 := Aside0.mk hi303_2; have HC303_2 := Aside0.mk hl303_2; clear hi303_2 hl303_2; replace p303 := eq_true p303; replace q303 := eq_true q303) | (go_at_call 54; (with_reducible refine (ih kj1 (by have := HJ1.out; omega) ((rd_T48 l0_2 1).f0) _ _ ((rd_T48 l0_2 1).f1) _ _ ((rd_T48 l0_2 1).f2) t304 _ ?side1 ?side2 ?side3 ?side4 A12.out).mono ?_); (case side1 => repeat (first | exact (Kd.C_below HR303_1.out HB.out) | (with_reducible refine Kd.C_alloc ?_ _) | (with_reducible refine Kd.C_drewN ?_ _) | (with_reducible refine Kd.C_drew ?_))); (case side2 => exact HC303_1.out); (case side3 => repeat (first | exact (Kd.C_below HR303_2.out HB.out) | (with_reducible refine Kd.C_alloc ?_ _) | (with_reducible refine Kd.C_drewN ?_ _) | (with_reducible refine Kd.C_drew ?_))); (case side4 => exact HC303_2.out); rintro e w16 ⟨rfl, hb⟩; have n0_ := Aside0.mk (blk_below (g := gb300) (o := .cells #[.int .i64 a0_0, .slice A0_1 l0_1.length c0_1, .slice (some ad301) l0_2.length c0_2] 48 (0, 0)) (by (with_reducible repeat (first | refine blk_drewN ?_ _ | refine blk_drew ?_ | refine blk_alloc ?_ _)); exact BK300.out) hb); have n1_ := Aside0.mk (below_step (by repeat (first | (with_reducible first | exact HB.out | apply below_alloc | apply pw_below_drewN | apply below_drew1 | refine below_set ?_ GE300.out) | exact HB.out)) hb); clear BK300; clear HB; have BK300 := n0_; have HB := n1_; clear n0_ n1_; (try clear hb); (try clear hb2); (try clear hk); (try clear hi)))
                go_ret
                exact ⟨by first | rfl | (simp [errW_none, errW_some] <;> rfl) | (simp [*, errW_none, errW_some] <;> rfl), by repeat (first | (with_reducible first | exact HB.out | apply below_alloc | apply pw_below_drewN | apply below_drew1 | refine below_set ?_ GE300.out) | exact HB.out)⟩
              · rw [if_neg c11] at H
                exact absurd H (by simp)
            · replace c10 := Bool.eq_false_iff.mpr c10
              subst c10
              have H1 : (some false) = some r := by rw [if_neg (show ¬ (false = true) by decide)] at H; exact H
              clear H
              have H := H1
              clear H1
              obtain rfl := Option.some.inj H
              have hcz17_0 : wc.cell? ⟨gb300, 0, none⟩ = some (.int .i64 a0_0) := (blk_cell BK300.out 0).trans rfl
              have hcz17_1 : wc.cell? ⟨gb300, 1, none⟩ = some (.slice A0_1 l0_1.length c0_1) := (blk_cell BK300.out 1).trans rfl
              have hcz17_2 : wc.cell? ⟨gb300, 2, none⟩ = some (.slice A0_2 l0_2.length c0_2) := (blk_cell BK300.out 2).trans rfl
              have hfz17_0 := blk_frozen BK300.out 0
              have hfz17_1 := blk_frozen BK300.out 1
              have hfz17_2 := blk_frozen BK300.out 2
              have p301 : 0 ≤ (0 : Int) := (by omega)
              have q301 : 0 < (l0_2.length : Int) := of_decide_eq_true (by first | (with_reducible assumption) | assumption)
              obtain ⟨ad301, A301_1, c301_1, A301_2, c301_2, e301, hx301_0, hx301_1, hx301_2, hl301_1, hi301_1, hl301_2, hi301_2⟩ := at_T48 HR0_2.out 0 p301 q301
              cases e301
              have qi301 : (0 < l0_2.length) = True := eq_true (by omega)
              (try rw [show ((0 : Int)).toNat = 0 from rfl] at hx301_0)
              (try rw [show 0 * 3 = 0 from rfl] at hx301_0)
              (try rw [Addr.add_zero'] at hx301_0)
              (try rw [show ((0 : Int)).toNat = 0 from rfl] at hx301_1)
              (try rw [show 0 * 3 = 0 from rfl] at hx301_1)
              (try rw [Addr.add_zero'] at hx301_1)
              (try rw [show ((0 : Int)).toNat = 0 from rfl] at hx301_2)
              (try rw [show 0 * 3 = 0 from rfl] at hx301_2)
              (try rw [Addr.add_zero'] at hx301_2)
              replace hx301_0 := (HB.out.cell (World.block_lt_of_cell? w _ hx301_0)).trans hx301_0
              replace hx301_1 := (HB.out.cell (World.block_lt_of_cell? w _ hx301_1)).trans hx301_1
              replace hx301_2 := (HB.out.cell (World.block_lt_of_cell? w _ hx301_2)).trans hx301_2
              have HR301_1 := Aside0.mk hi301_1
              have HC301_1 := Aside0.mk hl301_1
              clear hi301_1 hl301_1
              have HR301_2 := Aside0.mk hi301_2
              have HC301_2 := Aside0.mk hl301_2
              clear hi301_2 hl301_2
              replace p301 := eq_true p301
              replace q301 := eq_true q301
              go_wp2_with (first | ((with_reducible refine gate_callee (f := 54) rfl ?_); refine goesL_ (some 14) rfl rfl Tryd.func54 (by kernel_rfl) rfl #[.agg #[.int .i64 ((rd_T48 l0_2 0).f0), .slice A301_1 ((rd_T48 l0_2 0).f1).length c301_1, .slice A301_2 ((rd_T48 l0_2 0).f2).length c301_2]] rfl (by (try simp only [List.map_toArray, List.map_cons, List.map_nil]); first | done | rfl | (simp only [List.length_drop, List.length_take]; rfl)) ?_; (with_reducible refine (ih kj1 (by have := HJ1.out; omega) ((rd_T48 l0_2 0).f0) _ _ ((rd_T48 l0_2 0).f1) _ _ ((rd_T48 l0_2 0).f2) false _ ?side1 ?side2 ?side3 ?side4 A9.out).mono ?_); (case side1 => repeat (first | exact (Kd.C_below HR301_1.out HB.out) | (with_reducible refine Kd.C_alloc ?_ _) | (with_reducible refine Kd.C_drewN ?_ _) | (with_reducible refine Kd.C_drew ?_))); (case side2 => exact HC301_1.out); (case side3 => repeat (first | exact (Kd.C_below HR301_2.out HB.out) | (with_reducible refine Kd.C_alloc ?_ _) | (with_reducible refine Kd.C_drewN ?_ _) | (with_reducible refine Kd.C_drew ?_))); (case side4 => exact HC301_2.out); rintro e w18 ⟨rfl, hb⟩; refine ⟨_, rfl, ?_⟩; have n0_ := Aside0.mk (blk_below (g := gb300) (o := .cells #[.int .i64 a0_0, .slice A0_1 l0_1.length c0_1, .slice (some ad301) l0_2.length c0_2] 48 (0, 0)) (by (with_reducible repeat (first | refine blk_drewN ?_ _ | refine blk_drew ?_ | refine blk_alloc ?_ _)); exact BK300.out) hb); have n1_ := Aside0.mk (below_step (by repeat (first | (with_reducible first | exact HB.out | apply below_alloc | apply pw_below_drewN | apply below_drew1 | refine below_set ?_ GE300.out) | exact HB.out)) hb); clear BK300; clear HB; have BK300 := n0_; have HB := n1_; clear n0_ n1_; (try clear hb); (try clear hb2); (try clear hk); (try clear hi)))
              go_ret
              exact ⟨by first | rfl | (simp [errW_none, errW_some] <;> rfl) | (simp [*, errW_none, errW_some] <;> rfl), by repeat (first | (with_reducible first | exact HB.out | apply below_alloc | apply pw_below_drewN | apply below_drew1 | refine below_set ?_ GE300.out) | exact HB.out)⟩
          · rw [if_neg c8] at H
            exact absurd H (by simp)
        · rw [if_neg c7] at H
          have c7b0 : (a0_0 == 3) = false := beq_eq_false_iff_ne.mpr c7
          have c7b1 : (a0_0 != 3) = true := bne_iff_ne.mpr c7
          by_cases c19 : a0_0 = 4
          · rw [if_pos c19] at H
            have c19b0 : (a0_0 == 4) = true := beq_iff_eq.mpr c19
            have c19b1 : (a0_0 != 4) = false := bne_eq_false_iff_eq.mpr c19
            clear c19
            by_cases c20 : 0 < (l0_2.length : Int)
            · rw [if_pos c20] at H
              have c20b0 : decide (0 < (l0_2.length : Int)) = true := decide_eq_true c20
              have c20b1 : decide (0 < l0_2.length) = true := decide_eq_true (by omega)
              clear c20
              replace H := Option.bind_eq_some_iff.mp H
              obtain ⟨t306, A210, H⟩ := H
              replace H : (if t306 = true then (some true) else (if 1 < (l0_2.length : Int) then ((regex_empty.f kj1 ((rd_T48 l0_2 1).f0) ((rd_T48 l0_2 1).f1) ((rd_T48 l0_2 1).f2)).bind fun t308 => (some t308)) else (none))) = some r := H
              have A21 := Aside0.mk A210
              clear A210
              by_cases c22 : t306 = true
              · subst c22
                have H1 : (some true) = some r := by rw [if_pos rfl] at H; exact H
                clear H
                have H := H1
                clear H1
                obtain rfl := Option.some.inj H
                have hcz23_0 : wc.cell? ⟨gb300, 0, none⟩ = some (.int .i64 a0_0) := (blk_cell BK300.out 0).trans rfl
                have hcz23_1 : wc.cell? ⟨gb300, 1, none⟩ = some (.slice A0_1 l0_1.length c0_1) := (blk_cell BK300.out 1).trans rfl
                have hcz23_2 : wc.cell? ⟨gb300, 2, none⟩ = some (.slice A0_2 l0_2.length c0_2) := (blk_cell BK300.out 2).trans rfl
                have hfz23_0 := blk_frozen BK300.out 0
                have hfz23_1 := blk_frozen BK300.out 1
                have hfz23_2 := blk_frozen BK300.out 2
                have p305 : 0 ≤ (0 : Int) := (by omega)
                have q305 : 0 < (l0_2.length : Int) := of_decide_eq_true (by first | (with_reducible assumption) | assumption)
                obtain ⟨ad305, A305_1, c305_1, A305_2, c305_2, e305, hx305_0, hx305_1, hx305_2, hl305_1, hi305_1, hl305_2, hi305_2⟩ := at_T48 HR0_2.out 0 p305 q305
                cases e305
                have qi305 : (0 < l0_2.length) = True := eq_true (by omega)
                (try rw [show ((0 : Int)).toNat = 0 from rfl] at hx305_0)
                (try rw [show 0 * 3 = 0 from rfl] at hx305_0)
                (try rw [Addr.add_zero'] at hx305_0)
                (try rw [show ((0 : Int)).toNat = 0 from rfl] at hx305_1)
                (try rw [show 0 * 3 = 0 from rfl] at hx305_1)
                (try rw [Addr.add_zero'] at hx305_1)
                (try rw [show ((0 : Int)).toNat = 0 from rfl] at hx305_2)
                (try rw [show 0 * 3 = 0 from rfl] at hx305_2)
                (try rw [Addr.add_zero'] at hx305_2)
                replace hx305_0 := (HB.out.cell (World.block_lt_of_cell? w _ hx305_0)).trans hx305_0
                replace hx305_1 := (HB.out.cell (World.block_lt_of_cell? w _ hx305_1)).trans hx305_1
                replace hx305_2 := (HB.out.cell (World.block_lt_of_cell? w _ hx305_2)).trans hx305_2
                have HR305_1 := Aside0.mk hi305_1
                have HC305_1 := Aside0.mk hl305_1
                clear hi305_1 hl305_1
                have HR305_2 := Aside0.mk hi305_2
                have HC305_2 := Aside0.mk hl305_2
                clear hi305_2 hl305_2
                replace p305 := eq_true p305
                replace q305 := eq_true q305
                go_wp2_with (first | ((with_reducible refine gate_callee (f := 54) rfl ?_); refine goesL_ (some 28) rfl rfl Tryd.func54 (by kernel_rfl) rfl #[.agg #[.int .i64 ((rd_T48 l0_2 0).f0), .slice A305_1 ((rd_T48 l0_2 0).f1).length c305_1, .slice A305_2 ((rd_T48 l0_2 0).f2).length c305_2]] rfl (by (try simp only [List.map_toArray, List.map_cons, List.map_nil]); first | done | rfl | (simp only [List.length_drop, List.length_take]; rfl)) ?_; (with_reducible refine (ih kj1 (by have := HJ1.out; omega) ((rd_T48 l0_2 0).f0) _ _ ((rd_T48 l0_2 0).f1) _ _ ((rd_T48 l0_2 0).f2) true _ ?side1 ?side2 ?side3 ?side4 A21.out).mono ?_); (case side1 => repeat (first | exact (Kd.C_below HR305_1.out HB.out) | (with_reducible refine Kd.C_alloc ?_ _) | (with_reducible refine Kd.C_drewN ?_ _) | (with_reducible refine Kd.C_drew ?_))); (case side2 => exact HC305_1.out); (case side3 => repeat (first | exact (Kd.C_below HR305_2.out HB.out) | (with_reducible refine Kd.C_alloc ?_ _) | (with_reducible refine Kd.C_drewN ?_ _) | (with_reducible refine Kd.C_drew ?_))); (case side4 => exact HC305_2.out); rintro e w24 ⟨rfl, hb⟩; refine ⟨_, rfl, ?_⟩; have n0_ := Aside0.mk (blk_below (g := gb300) (o := .cells #[.int .i64 a0_0, .slice A0_1 l0_1.length c0_1, .slice (some ad305) l0_2.length c0_2] 48 (0, 0)) (by (with_reducible repeat (first | refine blk_drewN ?_ _ | refine blk_drew ?_ | refine blk_alloc ?_ _)); exact BK300.out) hb); have n1_ := Aside0.mk (below_step (by repeat (first | (with_reducible first | exact HB.out | apply below_alloc | apply pw_below_drewN | apply below_drew1 | refine below_set ?_ GE300.out) | exact HB.out)) hb); clear BK300; clear HB; have BK300 := n0_; have HB := n1_; clear n0_ n1_; (try clear hb); (try clear hb2); (try clear hk); (try clear hi)))
                go_ret
                exact ⟨by first | rfl | (simp [errW_none, errW_some] <;> rfl) | (simp [*, errW_none, errW_some] <;> rfl), by repeat (first | (with_reducible first | exact HB.out | apply below_alloc | apply pw_below_drewN | apply below_drew1 | refine below_set ?_ GE300.out) | exact HB.out)⟩
              · replace c22 := Bool.eq_false_iff.mpr c22
                subst c22
                have H1 : (if 1 < (l0_2.length : Int) then ((regex_empty.f kj1 ((rd_T48 l0_2 1).f0) ((rd_T48 l0_2 1).f1) ((rd_T48 l0_2 1).f2)).bind fun t308 => (some t308)) else (none)) = some r := by rw [if_neg (show ¬ (false = true) by decide)] at H; exact H
                clear H
                have H := H1
                clear H1
                by_cases c25 : 1 < (l0_2.length : Int)
                · rw [if_pos c25] at H
                  have c25b0 : decide (1 < (l0_2.length : Int)) = true := decide_eq_true c25
                  have c25b1 : decide (1 < l0_2.length) = true := decide_eq_true (by omega)
                  clear c25
                  replace H := Option.bind_eq_some_iff.mp H
                  obtain ⟨t308, A260, H⟩ := H
                  replace H : (some t308) = some r := H
                  have A26 := Aside0.mk A260
                  clear A260
                  obtain rfl := Option.some.inj H
                  have hcz27_0 : wc.cell? ⟨gb300, 0, none⟩ = some (.int .i64 a0_0) := (blk_cell BK300.out 0).trans rfl
                  have hcz27_1 : wc.cell? ⟨gb300, 1, none⟩ = some (.slice A0_1 l0_1.length c0_1) := (blk_cell BK300.out 1).trans rfl
                  have hcz27_2 : wc.cell? ⟨gb300, 2, none⟩ = some (.slice A0_2 l0_2.length c0_2) := (blk_cell BK300.out 2).trans rfl
                  have hfz27_0 := blk_frozen BK300.out 0
                  have hfz27_1 := blk_frozen BK300.out 1
                  have hfz27_2 := blk_frozen BK300.out 2
                  have p305 : 0 ≤ (0 : Int) := (by omega)
                  have q305 : 0 < (l0_2.length : Int) := of_decide_eq_true (by first | (with_reducible assumption) | assumption)
                  obtain ⟨ad305, A305_1, c305_1, A305_2, c305_2, e305, hx305_0, hx305_1, hx305_2, hl305_1, hi305_1, hl305_2, hi305_2⟩ := at_T48 HR0_2.out 0 p305 q305
                  cases e305
                  have qi305 : (0 < l0_2.length) = True := eq_true (by omega)
                  (try rw [show ((0 : Int)).toNat = 0 from rfl] at hx305_0)
                  (try rw [show 0 * 3 = 0 from rfl] at hx305_0)
                  (try rw [Addr.add_zero'] at hx305_0)
                  (try rw [show ((0 : Int)).toNat = 0 from rfl] at hx305_1)
                  (try rw [show 0 * 3 = 0 from rfl] at hx305_1)
                  (try rw [Addr.add_zero'] at hx305_1)
                  (try rw [show ((0 : Int)).toNat = 0 from rfl] at hx305_2)
                  (try rw [show 0 * 3 = 0 from rfl] at hx305_2)
                  (try rw [Addr.add_zero'] at hx305_2)
                  replace hx305_0 := (HB.out.cell (World.block_lt_of_cell? w _ hx305_0)).trans hx305_0
                  replace hx305_1 := (HB.out.cell (World.block_lt_of_cell? w _ hx305_1)).trans hx305_1
                  replace hx305_2 := (HB.out.cell (World.block_lt_of_cell? w _ hx305_2)).trans hx305_2
                  have HR305_1 := Aside0.mk hi305_1
                  have HC305_1 := Aside0.mk hl305_1
                  clear hi305_1 hl305_1
                  have HR305_2 := Aside0.mk hi305_2
                  have HC305_2 := Aside0.mk hl305_2
                  clear hi305_2 hl305_2
                  replace p305 := eq_true p305
                  replace q305 := eq_true q305
                  go_wp2_with (first | ((with_reducible refine gate_callee (f := 54) rfl ?_); refine goesL_ (some 28) rfl rfl Tryd.func54 (by kernel_rfl) rfl #[.agg #[.int .i64 ((rd_T48 l0_2 0).f0), .slice A305_1 ((rd_T48 l0_2 0).f1).length c305_1, .slice A305_2 ((rd_T48 l0_2 0).f2).length c305_2]] rfl (by (try simp only [List.map_toArray, List.map_cons, List.map_nil]); first | done | rfl | (simp only [List.length_drop, List.length_take]; rfl)) ?_; (with_reducible refine (ih kj1 (by have := HJ1.out; omega) ((rd_T48 l0_2 0).f0) _ _ ((rd_T48 l0_2 0).f1) _ _ ((rd_T48 l0_2 0).f2) false _ ?side1 ?side2 ?side3 ?side4 A21.out).mono ?_); (case side1 => repeat (first | exact (Kd.C_below HR305_1.out HB.out) | (with_reducible refine Kd.C_alloc ?_ _) | (with_reducible refine Kd.C_drewN ?_ _) | (with_reducible refine Kd.C_drew ?_))); (case side2 => exact HC305_1.out); (case side3 => repeat (first | exact (Kd.C_below HR305_2.out HB.out) | (with_reducible refine Kd.C_alloc ?_ _) | (with_reducible refine Kd.C_drewN ?_ _) | (with_reducible refine Kd.C_drew ?_))); (case side4 => exact HC305_2.out); rintro e w28 ⟨rfl, hb⟩; refine ⟨_, rfl, ?_⟩; have n0_ := Aside0.mk (blk_below (g := gb300) (o := .cells #[.int .i64 a0_0, .slice A0_1 l0_1.length c0_1, .slice (some ad305) l0_2.length c0_2] 48 (0, 0)) (by (with_reducible repeat (first | refine blk_drewN ?_ _ | refine blk_drew ?_ | refine blk_alloc ?_ _)); exact BK300.out) hb); have n1_ := Aside0.mk (below_step (by repeat (first | (with_reducible first | exact HB.out | apply below_alloc | apply pw_below_drewN | apply below_drew1 | refine below_set ?_ GE300.out) | exact HB.out)) hb); clear BK300; clear HB; have BK300 := n0_; have HB := n1_; clear n0_ n1_; (try clear hb); (try clear hb2); (try clear hk); (try clear hi); have hcz29_0 : w28.cell? ⟨gb300, 0, none⟩ = some (.int .i64 a0_0) := (blk_cell BK300.out 0).trans rfl; have hcz29_1 : w28.cell? ⟨gb300, 1, none⟩ = some (.slice A0_1 l0_1.length c0_1) := (blk_cell BK300.out 1).trans rfl; have hcz29_2 : w28.cell? ⟨gb300, 2, none⟩ = some (.slice (some ad305) l0_2.length c0_2) := (blk_cell BK300.out 2).trans rfl; have hfz29_0 := blk_frozen BK300.out 0; have hfz29_1 := blk_frozen BK300.out 1; have hfz29_2 := blk_frozen BK300.out 2; have p307 : 0 ≤ (1 : Int) := (by omega); have q307 : 1 < (l0_2.length : Int) := of_decide_eq_true (by first | (with_reducible assumption) | assumption); obtain ⟨ad307, A307_1, c307_1, A307_2, c307_2, e307, hx307_0, hx307_1, hx307_2, hl307_1, hi307_1, hl307_2, hi307_2⟩ := at_T48 HR0_2.out 1 p307 q307; obtain rfl : ad305 = ad307 := (by injection e307); (try simp only [show (1 : Int).toNat = 1 from rfl, Nat.reduceMul, Nat.reduceEqDiff, Go.Addr.add, ↓reduceIte] at hx307_0); (try simp only [show (1 : Int).toNat = 1 from rfl, Nat.reduceMul, Nat.reduceEqDiff, Go.Addr.add, ↓reduceIte] at hx307_1); (try simp only [show (1 : Int).toNat = 1 from rfl, Nat.reduceMul, Nat.reduceEqDiff, Go.Addr.add, ↓reduceIte] at hx307_2); have qi307 : (1 < l0_2.length) = True := eq_true (by omega); (try rw [show ((1 : Int)).toNat = 1 from rfl] at hx307_0); (try rw [show 1 * 3 = 3 from rfl] at hx307_0); (try rw [show ((1 : Int)).toNat = 1 from rfl] at hx307_1); (try rw [show 1 * 3 = 3 from rfl] at hx307_1); (try rw [show ((1 : Int)).toNat = 1 from rfl] at hx307_2); (try rw [show 1 * 3 = 3 from rfl] at hx307_2); replace hx307_0 := (HB.out.cell (World.block_lt_of_cell? w _ hx307_0)).trans hx307_0; replace hx307_1 := (HB.out.cell (World.block_lt_of_cell? w _ hx307_1)).trans hx307_1; replace hx307_2 := (HB.out.cell (World.block_lt_of_cell? w _ hx307_2)).trans hx307_2; have HR307_1 := Aside0.mk hi307_1; have HC307_1 := Aside0.mk hl307_1; clear hi307_1 hl307_1; have HR307_2 := Aside0.mk hi307_2; have HC307_2 := Aside0.mk hl307_2; clear hi307_2 hl307_2; replace p307 := eq_true p307; replace q307 := eq_true q307) | (go_at_call 54; (with_reducible refine (ih kj1 (by have := HJ1.out; omega) ((rd_T48 l0_2 1).f0) _ _ ((rd_T48 l0_2 1).f1) _ _ ((rd_T48 l0_2 1).f2) t308 _ ?side1 ?side2 ?side3 ?side4 A26.out).mono ?_); (case side1 => repeat (first | exact (Kd.C_below HR307_1.out HB.out) | (with_reducible refine Kd.C_alloc ?_ _) | (with_reducible refine Kd.C_drewN ?_ _) | (with_reducible refine Kd.C_drew ?_))); (case side2 => exact HC307_1.out); (case side3 => repeat (first | exact (Kd.C_below HR307_2.out HB.out) | (with_reducible refine Kd.C_alloc ?_ _) | (with_reducible refine Kd.C_drewN ?_ _) | (with_reducible refine Kd.C_drew ?_))); (case side4 => exact HC307_2.out); rintro e w30 ⟨rfl, hb⟩; have n0_ := Aside0.mk (blk_below (g := gb300) (o := .cells #[.int .i64 a0_0, .slice A0_1 l0_1.length c0_1, .slice (some ad305) l0_2.length c0_2] 48 (0, 0)) (by (with_reducible repeat (first | refine blk_drewN ?_ _ | refine blk_drew ?_ | refine blk_alloc ?_ _)); exact BK300.out) hb); have n1_ := Aside0.mk (below_step (by repeat (first | (with_reducible first | exact HB.out | apply below_alloc | apply pw_below_drewN | apply below_drew1 | refine below_set ?_ GE300.out) | exact HB.out)) hb); clear BK300; clear HB; have BK300 := n0_; have HB := n1_; clear n0_ n1_; (try clear hb); (try clear hb2); (try clear hk); (try clear hi)))
                  go_ret
                  exact ⟨by first | rfl | (simp [errW_none, errW_some] <;> rfl) | (simp [*, errW_none, errW_some] <;> rfl), by repeat (first | (with_reducible first | exact HB.out | apply below_alloc | apply pw_below_drewN | apply below_drew1 | refine below_set ?_ GE300.out) | exact HB.out)⟩
                · rw [if_neg c25] at H
                  exact absurd H (by simp)
            · rw [if_neg c20] at H
              exact absurd H (by simp)
          · rw [if_neg c19] at H
            have c19b0 : (a0_0 == 4) = false := beq_eq_false_iff_ne.mpr c19
            have c19b1 : (a0_0 != 4) = true := bne_iff_ne.mpr c19
            obtain rfl := Option.some.inj H
            go_wp2
            go_ret
            exact ⟨by first | rfl | (simp [errW_none, errW_some] <;> rfl) | (simp [*, errW_none, errW_some] <;> rfl), by repeat (first | (with_reducible first | exact HB.out | apply below_alloc | apply pw_below_drewN | apply below_drew1 | refine below_set ?_ GE300.out) | exact HB.out)⟩
end Go.Proofs.YthdfmbmbjpmlaaaDoor.Rn
/-
  DERIVED: THE SHELF's CONTRACTS AT THIS DUMP, IN PLAIN WORDS (tools/lay-plain.mjs out of 'YthdfmbmbjpmlaaaDoorLay0.lean', which tools/lay-shelf.mjs wrote): THE SAME DECLARATIONS UNDER THE SAME NAMES: 'import', 'namespace', 'open', 'def', 'theorem' AND NOTHING ELSE: no command of the shelf's: FOR A HAND-IN. Each laying: the table of numbers ('.._ren') and one theorem, a field a fact of the dump's own or the kernel's comparison; each contract: ONE APPLICATION.
-/
namespace Go.Proofs
open Go.Shelf
def Tryd.sortSpan_ren : Go.Shelf.Ren := ⟨fun | 6 => 74 | 15 => 79 | 14 => 78 | 28 => 89 | 29 => 90 | 20 => 81 | 21 => 82 | 22 => 83 | 23 => 84 | 24 => 85 | 25 => 86 | 26 => 87 | 27 => 88 | 46 => 91 | 47 => 92 | 48 => 93 | 49 => 94 | 50 => 95 | 57 => 96 | n => n, fun | 22 => 102 | 24 => 105 | 25 => 110 | 3 => 3 | 39 => 33 | 0 => 0 | 53 => 124 | 55 => 126 | 4 => 4 | 46 => 117 | 45 => 116 | 50 => 121 | 5 => 5 | 9 => 9 | 66 => 127 | 70 => 131 | 76 => 133 | 77 => 40 | n => n, fun | n => n⟩
theorem Tryd.sortSpan : Go.Proofs.SlLaysF0.n6 Tryd.prog Tryd.sortSpan_ren := {
  mixed := by kernel_rfl
  f6 := ⟨Tryd.f74.name, by decide, Tryd.func74.trans (congrArg some (by kernel_rfl))⟩
  f14 := ⟨Tryd.f78.name, by decide, Tryd.func78.trans (congrArg some (by kernel_rfl))⟩
  f15 := Tryd.func79.trans (congrArg some (by kernel_rfl))
  f20 := ⟨Tryd.f81.name, by decide, Tryd.func81.trans (congrArg some (by kernel_rfl))⟩
  f21 := ⟨Tryd.f82.name, by decide, Tryd.func82.trans (congrArg some (by kernel_rfl))⟩
  f22 := ⟨Tryd.f83.name, by decide, Tryd.func83.trans (congrArg some (by kernel_rfl))⟩
  f23 := ⟨Tryd.f84.name, by decide, Tryd.func84.trans (congrArg some (by kernel_rfl))⟩
  f24 := ⟨Tryd.f85.name, by decide, Tryd.func85.trans (congrArg some (by kernel_rfl))⟩
  f25 := ⟨Tryd.f86.name, by decide, Tryd.func86.trans (congrArg some (by kernel_rfl))⟩
  f26 := ⟨Tryd.f87.name, by decide, Tryd.func87.trans (congrArg some (by kernel_rfl))⟩
  f27 := ⟨Tryd.f88.name, by decide, Tryd.func88.trans (congrArg some (by kernel_rfl))⟩
  f28 := Tryd.func89.trans (congrArg some (by kernel_rfl))
  f29 := Tryd.func90.trans (congrArg some (by kernel_rfl))
  f46 := ⟨Tryd.f91.name, by decide, Tryd.func91.trans (congrArg some (by kernel_rfl))⟩
  f47 := Tryd.func92.trans (congrArg some (by kernel_rfl))
  f48 := Tryd.func93.trans (congrArg some (by kernel_rfl))
  f49 := ⟨Tryd.f94.name, by decide, Tryd.func94.trans (congrArg some (by kernel_rfl))⟩
  f50 := ⟨Tryd.f95.name, by decide, Tryd.func95.trans (congrArg some (by kernel_rfl))⟩
  f57 := ⟨Tryd.f96.name, by decide, Tryd.func96.trans (congrArg some (by kernel_rfl))⟩
  t0 := Tryd.underlying0
  a0 := Tryd.isAgg0
  z0 := Tryd.sizeOf0
  v0 := Tryd.zeroValue0
  t3 := Tryd.underlying3
  a3 := Tryd.isAgg3
  z3 := Tryd.sizeOf3
  v3 := Tryd.zeroValue3
  t4 := Tryd.underlying4
  a4 := Tryd.isAgg4
  z4 := Tryd.sizeOf4
  v4 := Tryd.zeroValue4
  t5 := Tryd.underlying5
  a5 := Tryd.isAgg5
  z5 := Tryd.sizeOf5
  v5 := Tryd.zeroValue5
  t9 := Tryd.underlying9
  a9 := Tryd.isAgg9
  z9 := Tryd.sizeOf9
  v9 := Tryd.zeroValue9
  t22 := Tryd.underlying102
  a22 := Tryd.isAgg102
  z22 := Tryd.sizeOf102
  v22 := Tryd.zeroValue102
  t25 := Tryd.underlying110
  a25 := Tryd.isAgg110
  z25 := Tryd.sizeOf110
  v25 := Tryd.zeroValue110
  t39 := Tryd.underlying33
  a39 := Tryd.isAgg33
  z39 := Tryd.sizeOf33
  v39 := Tryd.zeroValue33
  t45 := Tryd.underlying116
  a45 := Tryd.isAgg116
  z45 := Tryd.sizeOf116
  v45 := Tryd.zeroValue116
  t46 := Tryd.underlying117
  a46 := Tryd.isAgg117
  z46 := Tryd.sizeOf117
  v46 := Tryd.zeroValue117
  t50 := Tryd.underlying121
  a50 := Tryd.isAgg121
  z50 := Tryd.sizeOf121
  v50 := Tryd.zeroValue121
  t53 := Tryd.underlying124
  a53 := Tryd.isAgg124
  z53 := Tryd.sizeOf124
  v53 := Tryd.zeroValue124
  t55 := Tryd.underlying126
  a55 := Tryd.isAgg126
  z55 := Tryd.sizeOf126
  v55 := Tryd.zeroValue126
  t66 := Tryd.underlying127
  a66 := Tryd.isAgg127
  z66 := Tryd.sizeOf127
  v66 := Tryd.zeroValue127
  t70 := Tryd.underlying131
  a70 := Tryd.isAgg131
  z70 := Tryd.sizeOf131
  v70 := Tryd.zeroValue131
  t76 := Tryd.underlying133
  a76 := Tryd.isAgg133
  z76 := Tryd.sizeOf133
  v76 := Tryd.zeroValue133
  t77 := Tryd.underlying40
  a77 := Tryd.isAgg40
  z77 := Tryd.sizeOf40
  v77 := Tryd.zeroValue40 }
def Tryd.cmpInt_ren : Go.Shelf.Ren := ⟨fun | 5 => 76 | 7 => 80 | n => n, fun | 22 => 3 | 3 => 3 | 4 => 4 | n => n, fun | n => n⟩
theorem Tryd.cmpInt : Go.Proofs.SlLaysC2.n5 Tryd.prog Tryd.cmpInt_ren := {
  mixed := by kernel_rfl
  f5 := ⟨Tryd.f76.name, by decide, Tryd.func76.trans (congrArg some (by kernel_rfl))⟩
  f7 := ⟨Tryd.f80.name, by decide, Tryd.func80.trans (congrArg some (by kernel_rfl))⟩
  t3 := Tryd.underlying3
  a3 := Tryd.isAgg3
  z3 := Tryd.sizeOf3
  v3 := Tryd.zeroValue3
  t4 := Tryd.underlying4
  a4 := Tryd.isAgg4
  z4 := Tryd.sizeOf4
  v4 := Tryd.zeroValue4
  t22 := Tryd.underlying3
  a22 := Tryd.isAgg3
  z22 := Tryd.sizeOf3
  v22 := Tryd.zeroValue3 }
end Go.Proofs
/- Plain laws of spans: lists of spans (whole numbers from one up to, not with, another); their one normal form. No program. -/
set_option linter.unusedVariables false
namespace Go.Proofs.YthdfmbmbjpmlaaaDoor.Rn
abbrev Sp := S105
def inS (l : List Sp) (n : Int) : Prop := ∃ x, x ∈ l ∧ x.1 ≤ n ∧ n < x.2
theorem inS_nil (n : Int) : ¬ inS [] n := fun ⟨_, h, _⟩ => by cases h
theorem inS_cons (x : Sp) (l : List Sp) (n : Int) : inS (x :: l) n ↔ (x.1 ≤ n ∧ n < x.2) ∨ inS l n := by
  unfold inS
  constructor
  · rintro ⟨y, hy, h⟩
    rcases List.mem_cons.1 hy with rfl | hy
    · exact .inl h
    · exact .inr ⟨y, hy, h⟩
  · rintro (h | ⟨y, hy, h⟩)
    · exact ⟨x, List.mem_cons_self, h⟩
    · exact ⟨y, List.mem_cons_of_mem _ hy, h⟩
theorem inS_append (l m : List Sp) (n : Int) : inS (l ++ m) n ↔ inS l n ∨ inS m n := by
  induction l with
  | nil => simp [inS_nil]
  | cons x l ih => rw [List.cons_append, inS_cons, inS_cons, ih, or_assoc]
/-- rising, none empty, with others between, all above lo -/
def NFb : Int → List Sp → Prop
  | _, [] => True
  | lo, x :: r => lo < x.1 ∧ x.1 < x.2 ∧ NFb x.2 r
theorem NFb_mono {lo lo' : Int} {l : List Sp} (h : NFb lo l) (hl : lo' ≤ lo) : NFb lo' l := by
  cases l with
  | nil => trivial
  | cons x r => exact ⟨by have := h.1; omega, h.2⟩
theorem NFb_lt {l : List Sp} : ∀ {lo : Int}, NFb lo l → ∀ n, inS l n → lo < n := by
  induction l with
  | nil => intro lo _ n h; exact absurd h (inS_nil n)
  | cons x r ih =>
    intro lo h n hn
    obtain ⟨h1, h2, h3⟩ := h
    rcases (inS_cons x r n).1 hn with h4 | h4
    · omega
    · have := ih h3 n h4
      omega
theorem NFb_unique : ∀ (a b : List Sp) (lo : Int), NFb lo a → NFb lo b → (∀ n, inS a n ↔ inS b n) → a = b
  | [], [], _, _, _, _ => rfl
  | [], y :: t, _, _, hb, h => absurd ((h y.1).2 ((inS_cons y t y.1).2 (.inl ⟨by omega, hb.2.1⟩))) (inS_nil _)
  | x :: r, [], _, ha, _, h => absurd ((h x.1).1 ((inS_cons x r x.1).2 (.inl ⟨by omega, ha.2.1⟩))) (inS_nil _)
  | x :: r, y :: t, lo, ha, hb, h => by
    obtain ⟨a1, a2, a3⟩ := ha
    obtain ⟨b1, b2, b3⟩ := hb
    have e1 : x.1 = y.1 := by
      have h1 := (h x.1).1 ((inS_cons x r x.1).2 (.inl ⟨by omega, a2⟩))
      have h2 := (h y.1).2 ((inS_cons y t y.1).2 (.inl ⟨by omega, b2⟩))
      rcases (inS_cons y t x.1).1 h1 with h3 | h3 <;> rcases (inS_cons x r y.1).1 h2 with h4 | h4
      · omega
      · have := NFb_lt a3 _ h4; omega
      · have := NFb_lt b3 _ h3; omega
      · have := NFb_lt a3 _ h4; have := NFb_lt b3 _ h3; omega
    have e2 : x.2 = y.2 := by
      by_cases h1 : x.2 < y.2
      · have h2 := (h x.2).2 ((inS_cons y t x.2).2 (.inl ⟨by omega, h1⟩))
        rcases (inS_cons x r x.2).1 h2 with h3 | h3
        · omega
        · have := NFb_lt a3 _ h3; omega
      · by_cases h4 : y.2 < x.2
        · have h2 := (h y.2).1 ((inS_cons x r y.2).2 (.inl ⟨by omega, h4⟩))
          rcases (inS_cons y t y.2).1 h2 with h3 | h3
          · omega
          · have := NFb_lt b3 _ h3; omega
        · omega
    obtain ⟨x1, x2⟩ := x
    obtain ⟨y1, y2⟩ := y
    dsimp only at e1 e2 a1 a2 a3 b1 b2 b3
    subst e1 e2
    congr 1
    refine NFb_unique r t x2 a3 b3 (fun n => ⟨fun h1 => ?_, fun h1 => ?_⟩)
    · have h2 := NFb_lt a3 n h1
      rcases (inS_cons (⟨x1, x2⟩ : Sp) t n).1 ((h n).1 ((inS_cons (⟨x1, x2⟩ : Sp) r n).2 (.inr h1))) with h3 | h3
      · dsimp only at h3; omega
      · exact h3
    · have h2 := NFb_lt b3 n h1
      rcases (inS_cons (⟨x1, x2⟩ : Sp) r n).1 ((h n).2 ((inS_cons (⟨x1, x2⟩ : Sp) t n).2 (.inr h1))) with h3 | h3
      · dsimp only at h3; omega
      · exact h3
/-! one behind the other -/
theorem NFb_snoc {p : List Sp} {y x : Sp} : ∀ {lo : Int}, NFb lo (p ++ [y]) → y.2 < x.1 → x.1 < x.2 → NFb lo (p ++ [y] ++ [x]) := by
  induction p with
  | nil => intro lo h h1 h2; exact ⟨h.1, h.2.1, h1, h2, trivial⟩
  | cons z p ih => intro lo h h1 h2; exact ⟨h.1, h.2.1, ih h.2.2 h1 h2⟩
theorem NFb_last {p : List Sp} {y : Sp} {m : Int} : ∀ {lo : Int}, NFb lo (p ++ [y]) → y.1 < m → NFb lo (p ++ [(⟨y.1, m⟩ : Sp)]) := by
  induction p with
  | nil => intro lo h h1; exact ⟨h.1, h1, trivial⟩
  | cons z p ih => intro lo h h1; exact ⟨h.1, h.2.1, ih h.2.2 h1⟩
theorem NFb_end {p : List Sp} {y : Sp} : ∀ {lo : Int}, NFb lo (p ++ [y]) → lo < y.1 ∧ y.1 < y.2 := by
  induction p with
  | nil => intro lo h; exact ⟨h.1, h.2.1⟩
  | cons z p ih => intro lo h; have := ih h.2.2; have h1 := h.1; have h2 := h.2.1; exact ⟨by omega, this.2⟩
/-- one span more, behind those that begin ahead of it -/
def stepM (out : List Sp) (x : Sp) : List Sp :=
  match out.getLast? with
  | some y => if x.1 ≤ y.2 then out.dropLast ++ [(⟨y.1, max y.2 x.2⟩ : Sp)] else out ++ [x]
  | none => [x]
def mergeS (l : List Sp) : List Sp := l.foldl stepM []
theorem stepM_snoc (p : List Sp) (y x : Sp) : stepM (p ++ [y]) x = if x.1 ≤ y.2 then p ++ [(⟨y.1, max y.2 x.2⟩ : Sp)] else p ++ [y] ++ [x] := by
  unfold stepM
  rw [List.getLast?_concat]
  dsimp only
  rw [List.dropLast_concat]
theorem mergeS_snoc (l : List Sp) (x : Sp) : mergeS (l ++ [x]) = stepM (mergeS l) x := by simp [mergeS]
/-- what has been merged: normal, begins ahead of what comes, has what was there -/
def Merged (l out : List Sp) : Prop :=
  NFb (-1) out ∧ (∀ n, inS out n ↔ inS l n) ∧ (out = [] ↔ l = []) ∧ (∀ p y, out = p ++ [y] → ∃ z, z ∈ l ∧ y.1 ≤ z.1)
theorem merged_step {l out : List Sp} {x : Sp} (h : Merged l out) (h0 : 0 ≤ x.1) (h1 : x.1 < x.2) (hs : ∀ z, z ∈ l → z.1 ≤ x.1) : Merged (l ++ [x]) (stepM out x) := by
  obtain ⟨a1, a2, a3, a4⟩ := h
  have hmem : ∀ n, inS [x] n ↔ x.1 ≤ n ∧ n < x.2 := fun n => by rw [inS_cons]; simp [inS_nil]
  rcases List.eq_nil_or_concat out with rfl | ⟨p, y, rfl⟩
  · have hl : l = [] := a3.1 rfl
    subst hl
    refine ⟨⟨by omega, h1, trivial⟩, fun n => Iff.rfl, by simp [stepM], fun p y e => ⟨x, by simp, ?_⟩⟩
    cases p with
    | nil => have : x = y := by simpa [stepM] using e
             rw [this]; omega
    | cons z p => simp [stepM] at e
  · rw [List.concat_eq_append] at *
    obtain ⟨z, hz, hyz⟩ := a4 p y rfl
    have hyx : y.1 ≤ x.1 := by have := hs z hz; omega
    have hye := NFb_end a1
    have hne : ¬ l = [] := fun e => by rw [e] at hz; cases hz
    rw [stepM_snoc]
    by_cases h2 : x.1 ≤ y.2
    · rw [if_pos h2]
      refine ⟨NFb_last a1 (by omega), fun n => ?_, by simp, fun q u e => ?_⟩
      · rw [inS_append l, ← a2, inS_append, inS_append, hmem, inS_cons, inS_cons]
        simp only [inS_nil, or_false]
        constructor
        · rintro (h3 | h3)
          · exact .inl (.inl h3)
          · by_cases h4 : n < y.2
            · exact .inl (.inr ⟨h3.1, h4⟩)
            · exact .inr (by omega)
        · rintro ((h3 | h3) | h3)
          · exact .inl h3
          · exact .inr (by omega)
          · exact .inr (by omega)
      · have := List.append_inj' e rfl
        obtain ⟨_, e2⟩ := this
        injection e2 with e2
        refine ⟨z, List.mem_append_left _ hz, ?_⟩
        rw [← e2]
        exact hyz
    · rw [if_neg h2]
      refine ⟨NFb_snoc a1 (by omega) h1, fun n => ?_, by simp, fun q u e => ?_⟩
      · rw [inS_append, inS_append l, a2]
      · have := List.append_inj' e rfl
        obtain ⟨_, e2⟩ := this
        injection e2 with e2
        exact ⟨x, by simp, by rw [← e2]; omega⟩
/-- rising by where they begin -/
def Rising : List Sp → Prop
  | [] => True
  | x :: r => (∀ z, z ∈ r → x.1 ≤ z.1) ∧ Rising r
theorem merged_all (l : List Sp) (hr : ∀ i j (hi : i < j) (hj : j < l.length), (l[i]'(by omega)).1 ≤ l[j].1) (hv : ∀ x, x ∈ l → 0 ≤ x.1 ∧ x.1 < x.2) : ∀ k, k ≤ l.length → Merged (l.take k) (mergeS (l.take k)) := by
  intro k
  induction k with
  | zero => intro _; exact ⟨trivial, fun n => Iff.rfl, by simp [mergeS], fun p y e => by simp [mergeS] at e⟩
  | succ k ih =>
    intro hk
    have h := ih (by omega)
    rw [List.take_succ_eq_append_getElem (by omega), mergeS_snoc]
    have hx := hv l[k] (List.getElem_mem _)
    refine merged_step h hx.1 hx.2 (fun z hz => ?_)
    obtain ⟨i, hi, rfl⟩ := List.mem_iff_getElem.1 hz
    rw [List.length_take] at hi
    rw [List.getElem_take]
    exact hr i k (by omega) (by omega)
theorem merged_of {l : List Sp} (hr : ∀ i j (hi : i < j) (hj : j < l.length), (l[i]'(by omega)).1 ≤ l[j].1) (hv : ∀ x, x ∈ l → 0 ≤ x.1 ∧ x.1 < x.2) : NFb (-1) (mergeS l) ∧ ∀ n, inS (mergeS l) n ↔ inS l n := by
  have h := merged_all l hr hv l.length (Nat.le_refl _)
  rw [List.take_length] at h
  exact ⟨h.1, h.2.1⟩
theorem inS_perm {a b : List Sp} (h : ∀ x, x ∈ a ↔ x ∈ b) (n : Int) : inS a n ↔ inS b n :=
  ⟨fun ⟨x, hx, h1⟩ => ⟨x, (h x).1 hx, h1⟩, fun ⟨x, hx, h1⟩ => ⟨x, (h x).2 hx, h1⟩⟩
/-! sorted by hand -/
def insS (x : Sp) : List Sp → List Sp
  | [] => [x]
  | y :: r => if x.1 ≤ y.1 then x :: y :: r else y :: insS x r
def sortS : List Sp → List Sp
  | [] => []
  | x :: r => insS x (sortS r)
theorem insS_mem (x z : Sp) : ∀ l, z ∈ insS x l ↔ z = x ∨ z ∈ l
  | [] => by simp [insS]
  | y :: r => by
    unfold insS
    split
    · simp
    · rw [List.mem_cons, insS_mem x z r, List.mem_cons]
      constructor
      · rintro (h | h | h) <;> simp [h]
      · rintro (h | h | h) <;> simp [h]
theorem sortS_mem (z : Sp) : ∀ l, z ∈ sortS l ↔ z ∈ l
  | [] => by simp [sortS]
  | x :: r => by rw [sortS, insS_mem, sortS_mem z r, List.mem_cons]
theorem insS_rising (x : Sp) : ∀ l, Rising l → Rising (insS x l)
  | [], _ => ⟨(fun z h => by cases h), trivial⟩
  | y :: r, h => by
    unfold insS
    split
    · rename_i h1
      refine ⟨fun z hz => ?_, h⟩
      rcases List.mem_cons.1 hz with rfl | hz
      · exact h1
      · have := h.1 z hz; omega
    · rename_i h1
      refine ⟨fun z hz => ?_, insS_rising x r h.2⟩
      rcases (insS_mem x z r).1 hz with rfl | hz
      · omega
      · exact h.1 z hz
theorem sortS_rising : ∀ l, Rising (sortS l)
  | [] => trivial
  | x :: r => insS_rising x _ (sortS_rising r)
theorem rising_at : ∀ (l : List Sp), Rising l → ∀ i j (hi : i < j) (hj : j < l.length), (l[i]'(by omega)).1 ≤ l[j].1
  | [], _, i, j, hi, hj => absurd hj (by simp)
  | x :: r, h, i, j, hi, hj => by
    cases j with
    | zero => omega
    | succ j =>
      cases i with
      | zero => exact h.1 _ (by simp)
      | succ i => simpa using rising_at r h.2 i j (by omega) (by simpa using hj)
/-- what spans come to: whatever order they were sorted in -/
def nfS (l : List Sp) : List Sp := mergeS (sortS l)
theorem nfS_spec {l : List Sp} (hv : ∀ x, x ∈ l → 0 ≤ x.1 ∧ x.1 < x.2) : NFb (-1) (nfS l) ∧ ∀ n, inS (nfS l) n ↔ inS l n := by
  have h := merged_of (l := sortS l) (rising_at _ (sortS_rising l)) (fun x hx => hv x ((sortS_mem x l).1 hx))
  exact ⟨h.1, fun n => (h.2 n).trans (inS_perm (fun x => sortS_mem x l) n)⟩
theorem merge_any {l s : List Sp} (hp : ∀ x, x ∈ s ↔ x ∈ l) (hr : ∀ i j (hi : i < j) (hj : j < s.length), (s[i]'(by omega)).1 ≤ s[j].1) (hv : ∀ x, x ∈ l → 0 ≤ x.1 ∧ x.1 < x.2) : mergeS s = nfS l := by
  have h1 := merged_of hr (fun x hx => hv x ((hp x).1 hx))
  have h2 := nfS_spec hv
  exact NFb_unique _ _ (-1) h1.1 h2.1 (fun n => (h1.2 n).trans ((inS_perm hp n).trans (h2.2 n).symm))
theorem nfS_of_NFb {l : List Sp} (h : NFb (-1) l) (hv : ∀ x, x ∈ l → 0 ≤ x.1 ∧ x.1 < x.2) : nfS l = l :=
  NFb_unique _ _ (-1) (nfS_spec hv).1 h (nfS_spec hv).2
theorem NFb_mem : ∀ {l : List Sp} {lo : Int}, NFb lo l → ∀ x, x ∈ l → lo < x.1 ∧ x.1 < x.2
  | [], _, _, x, hx => by cases hx
  | y :: r, lo, h, x, hx => by
    rcases List.mem_cons.1 hx with rfl | hx
    · exact ⟨h.1, h.2.1⟩
    · have := NFb_mem h.2.2 x hx
      have h1 := h.1
      have h2 := h.2.1
      omega
end Go.Proofs.YthdfmbmbjpmlaaaDoor.Rn
/- slices.SortFunc of spans, by the library's contract. -/
set_option linter.unusedVariables false
set_option linter.unusedSimpArgs false
namespace Go.Proofs.YthdfmbmbjpmlaaaDoor.Rn
open Go Go.RowKit Go.Proofs.YthdfmbmbjpmlaaaDoorW.PrintWords Go.Proofs.YthdfmbmbjpmlaaaDoorW.PrintLast Go.Proofs.YthdfmbmbjpmlaaaDoorW.PrintMore
instance : Inhabited Sp := ⟨⟨0, 0⟩⟩
def encS (x : Sp) : List Value := [.int .i64 x.f0, .int .i64 x.f1]
def cmpS (x y : Sp) : Int := Lib.compareInt x.f0 y.f0
theorem ltS (x y : Sp) : Go.Proofs.ltOf cmpS x y = decide (x.f0 < y.f0) := by
  unfold Go.Proofs.ltOf cmpS Lib.compareInt
  by_cases h1 : x.f0 < y.f0
  · simp [h1]
  · by_cases h2 : y.f0 < x.f0 <;> simp [h1, h2]
theorem swoS : Go.Sort.SWO (Go.Proofs.ltOf cmpS) where
  irrefl x := by rw [ltS]; simp
  trans x y z h1 h2 := by rw [ltS] at *; simp at *; omega
  ntrans x y z h1 h2 := by rw [ltS] at *; simp at *; omega
set_option maxHeartbeats 1000000 in
theorem cmp_span (x y : Sp) (W : World) : Calls Tryd.prog 75 #[.agg #[.int .i64 x.f0, .int .i64 x.f1], .agg #[.int .i64 y.f0, .int .i64 y.f1]] W fun e w' => e = .returned (.int .i64 (cmpS x y)) ∧ ∃ q os', w' = Go.Sort.grow (W.drewN q) os' := by
  have hcon := fun W' => Go.Proofs.AnyG.cmp_Compare_int Go.Proofs.Tryd.cmpInt x.f0 y.f0 W'
  change ∀ W', Calls Tryd.prog 76 _ _ _ at hcon
  unfold cmpS
  generalize Lib.compareInt x.f0 y.f0 = r at hcon ⊢
  go_enter Tryd.func75, Tryd.ntmps75
  go_wp2_with (go_at_call 76; refine (hcon _).mono ?_; rintro e w' ⟨rfl, rfl⟩)
  go_ret
  exact ⟨rfl, 0, _, by rw [Go.Sort.alloc_eq_grow, Go.Sort.alloc_eq_grow, Go.Sort.grow_grow]; rfl⟩
theorem cmp_lays (blk off size : Nat) (w : World) : Go.Proofs.CmpLays Tryd.prog 75 #[] encS 2 cmpS blk off size w :=
  fun _ _ _ _ x y => cmp_span x y _
theorem flat_inner {M : Sp → List Value → Prop} (hM : ∀ x cs, M x cs → cs = encS x) {xs : List Sp} {inner : List Value} (h : Reps M 2 xs inner) (t : Nat) (ht : t < xs.length * 2) : inner[t]? = some ((encS (xs.toArray[t / 2]!))[t % 2]!) := by
  have hj : t / 2 < xs.length := by omega
  have h1 := hM _ _ (h.2 (t / 2) xs[t / 2] (List.getElem?_eq_getElem hj))
  have h2 : xs.toArray[t / 2]! = xs[t / 2] := by simp [hj]
  rw [h2]
  have h3 : ((inner.drop (t / 2 * 2)).take 2)[t % 2]? = inner[t]? := by
    rw [List.getElem?_take, if_pos (by omega), List.getElem?_drop]
    congr 1
    omega
  rw [← h3, h1]
  have h4 : t % 2 = 0 ∨ t % 2 = 1 := by omega
  rcases h4 with h4 | h4 <;> rw [h4] <;> rfl
theorem reps_flat {M : Sp → List Value → Prop} (hM : ∀ x, M x (encS x)) (d : Array Sp) : Reps M 2 d.toList (Go.Sort.flatK encS 2 d).toList := by
  refine ⟨by simp, fun j p hp => ?_⟩
  have hj : j < d.size := by have := (List.getElem?_eq_some_iff.1 hp).1; simpa using this
  have e : ((Go.Sort.flatK encS 2 d).toList.drop (j * 2)).take 2 = encS p := by
    have hp2 : d[j]! = p := by
      have := (List.getElem?_eq_some_iff.1 hp).2
      simp [hj]
      simpa using this
    apply List.ext_getElem?
    intro t
    rw [List.getElem?_take]
    by_cases h2 : t < 2
    · rw [if_pos h2, List.getElem?_drop]
      have h3 := Go.Sort.get_flatK encS 2 d (j * 2 + t) (by omega)
      have h4 : j * 2 + t < (Go.Sort.flatK encS 2 d).size := by simp; omega
      rw [Array.getElem?_toList, Array.getElem?_eq_getElem h4]
      rw [getElem!_pos (Go.Sort.flatK encS 2 d) (j * 2 + t) h4] at h3
      rw [h3, show (j * 2 + t) / 2 = j by omega, show (j * 2 + t) % 2 = t by omega, hp2]
      have h5 : t = 0 ∨ t = 1 := by omega
      rcases h5 with rfl | rfl <;> rfl
    · rw [if_neg h2]
      symm
      rw [List.getElem?_eq_none]
      show 2 ≤ t
      omega
  rw [e]
  exact hM p
theorem sorted_blk {w : World} {g m : Nat} {cur : Array Value} {e : TypeId} (h : w.heap[g]? = some (.cells cur e (0, 0))) (d : Array Sp) (os : Array Obj) :
    (Go.Proofs.sortWorldK encS 2 w g 0 m d os).heap[g]? = some (.cells (Go.Sort.putCells id 0 (Go.Sort.flatK encS 2 d) cur) e (0, 0)) := by
  have hg := blk_lt h
  show ((Go.Sort.ahead w m).heap.modify g _ ++ os)[g]? = _
  rw [Array.getElem?_append_left (by simpa [Go.Sort.ahead] using hg), Array.getElem?_modify, if_pos rfl]
  show (w.heap[g]?).map _ = _
  rw [h]
  rfl
theorem sorted_far {w : World} {g m k : Nat} (hk : k < w.heap.size) (hne : g ≠ k) (d : Array Sp) (os : Array Obj) : (Go.Proofs.sortWorldK encS 2 w g 0 m d os).heap[k]? = w.heap[k]? := by
  show ((Go.Sort.ahead w m).heap.modify g _ ++ os)[k]? = _
  rw [Array.getElem?_append_left (by simpa [Go.Sort.ahead] using hk), Array.getElem?_modify, if_neg hne]
  rfl
theorem sorted_size {w : World} {g m : Nat} (d : Array Sp) (os : Array Obj) : w.heap.size ≤ (Go.Proofs.sortWorldK encS 2 w g 0 m d os).heap.size := by
  show _ ≤ ((Go.Sort.ahead w m).heap.modify g _ ++ os).size
  simp [Go.Sort.ahead]
theorem put_take (F cur : Array Value) (h : F.size ≤ cur.size) : (Go.Sort.putCells id 0 F cur).toList.take F.size = F.toList := by
  apply List.ext_getElem?
  intro t
  rw [List.getElem?_take]
  by_cases ht : t < F.size
  · rw [if_pos ht]
    unfold Go.Sort.putCells
    have h2 : t < cur.size := by omega
    simp [ht, h2]
  · rw [if_neg ht, List.getElem?_eq_none]
    simp
    omega
theorem sort_any (A : Option Addr) (xs : List Sp) (c base : Nat) (w : World) (hR : Kd.R k105 105 w base (fun _ => True) (.slice A xs.length c) xs) (hl : xs.length < 1000000000000) :
    Calls Tryd.prog 74 #[.slice A xs.length c, .func (.func 75) #[] #[]] w fun e w' => e = .returned (.tuple #[]) ∧ ∃ ys, ys.length = xs.length ∧ (∀ x, x ∈ ys ↔ x ∈ xs) ∧ (∀ i j (hi : i < j) (hj : j < ys.length), (ys[i]'(by omega)).1 ≤ ys[j].1) ∧ Kd.R k105 105 w' base (fun _ => True) (.slice A xs.length c) ys ∧ Below base w w' := by
  by_cases h0 : xs = []
  · subst h0
    have hcon := Go.Proofs.AnyF.slices_SortFunc_none Go.Proofs.Tryd.sortSpan A c (.func (.func 75) #[] #[]) w
    change Calls Tryd.prog 74 _ _ _ at hcon
    refine hcon.mono ?_
    rintro e w' ⟨rfl, rfl⟩
    exact ⟨rfl, [], rfl, fun x => Iff.rfl, fun i j hi hj => absurd hj (by simp), hR, Below.refl _ _⟩
  have hn : 0 < xs.length := List.length_pos_iff.2 h0
  obtain ⟨_, inner, ho, hr⟩ := hR
  rcases ho.2 with ⟨_, h1⟩ | ⟨g, cap, cur, hv, hbg, hg, hnc, hcm, hcs, htake⟩
  · omega
  injection hv with hA _ hc
  subst hA hc
  have htake2 : cur.toList.take (xs.length * 2) = inner := htake
  have hcs2 : cur.size = c * 2 := hcs
  have hMo : ∀ x cs, k105.M w base (fun k => True ∧ some k ≠ (Value.slice (some ⟨g, 0, none⟩) xs.length c).ownBlock) x cs → cs = encS x := fun x cs h => k105_openM h
  have hfl : ∀ t, t < xs.length * 2 → cur[t]? = some ((encS (xs.toArray[t / 2]!))[t % 2]!) := fun t ht => by
    have h2 := flat_inner hMo hr t ht
    rw [← htake2, List.getElem?_take, if_pos ht] at h2
    simpa using h2
  have hH : Go.Sort.HoldsK encS 2 w g 0 xs.toArray := fun t ht => by
    have ht' : t < xs.length * 2 := by simpa using ht
    rw [Nat.zero_add]
    refine ⟨?_, blk_frozen hg t⟩
    rw [blk_cell hg t, hfl t ht', Go.Sort.get_flatK encS 2 _ t (by simpa using ht')]
    rfl
  have eg : ∀ args w, (callFunc 75 args).run Tryd.prog w = .ok (.enter 75 args) w := enters_of Tryd.func75 (by kernel_rfl) rfl
  have hcon := Go.Proofs.AnyQ.slices_SortFunc Go.Proofs.Tryd.sortSpan 2 Tryd.isAgg105 Tryd.sizeOf105 encS (fun _ => rfl) (fun x v hv => by simp [encS] at hv; rcases hv with rfl | rfl <;> rfl) cmpS swoS 75 #[] g 0 c xs.toArray w eg (cmp_lays g 0 _ w) hH (blk_lt hg) (by simp; omega)
  change Calls Tryd.prog 74 _ _ _ at hcon
  simp only [List.size_toArray] at hcon
  refine hcon.mono ?_
  rintro e w' ⟨rfl, d', m, os, hp, hs, rfl⟩
  obtain ⟨hsz, _, hperm⟩ := hp
  have hsz' : d'.size = xs.length := by simpa using hsz
  have hex : ∀ x, x ∈ d'.toList ↔ x ∈ xs := fun x => by
    have h3 := hperm.mem_iff (a := x)
    have e1 : d'.extract 0 xs.length = d' := by rw [← hsz']; exact Array.extract_size
    have e2 : xs.toArray.extract 0 xs.length = xs.toArray := by simp
    rw [e1, e2] at h3
    simpa using h3
  have hF : (Go.Sort.flatK encS 2 d').size = xs.length * 2 := by rw [Go.Sort.size_flatK, hsz']
  refine ⟨rfl, d'.toList, by simpa using hsz', hex, fun i j hi hj => ?_, ?_, ?_⟩
  · have hj' : j < d'.size := by simpa using hj
    have h4 := hs i j (Nat.zero_le _) hi (by omega)
    rw [ltS] at h4
    rw [getElem!_pos d' i (by omega), getElem!_pos d' j hj'] at h4
    have h5 := of_decide_eq_false h4
    simp only [Array.getElem_toList]
    show d'[i].f0 ≤ d'[j].f0
    omega
  · refine ⟨fun _ _ => trivial, (Go.Sort.flatK encS 2 d').toList, ⟨by rw [show k105.sz = 2 from rfl]; simp, .inr ⟨g, c, _, by rw [show d'.toList.length = xs.length by simpa using hsz'], hbg, sorted_blk hg d' os, by simpa [hsz'] using hnc, hcm, by rw [show k105.sz = 2 from rfl]; simp [Go.Sort.putCells, hcs2], ?_⟩⟩, reps_flat (fun x => k105_mkM _ _ _ x) d'⟩
    have h6 := put_take (Go.Sort.flatK encS 2 d') cur (by rw [hF, hcs2]; omega)
    rw [hF] at h6
    show List.take (d'.toList.length * 2) _ = _
    rw [show d'.toList.length = xs.length by simpa using hsz']
    exact h6
  · exact ⟨rfl, rfl, rfl, sorted_size d' os, fun k hk => sorted_far (by have := blk_lt hg; omega) (by omega) d' os⟩
end Go.Proofs.YthdfmbmbjpmlaaaDoor.Rn
/- runes.spans. -/
set_option linter.unusedVariables false
set_option linter.unusedSimpArgs false
namespace Go.Proofs.YthdfmbmbjpmlaaaDoor.Rn
open Go Go.RowKit Go.Proofs.YthdfmbmbjpmlaaaDoorW.PrintWords Go.Proofs.YthdfmbmbjpmlaaaDoorW.PrintLast Go.Proofs.YthdfmbmbjpmlaaaDoorW.PrintMore
def numS (r : Int) : Int := (runes_number.f r).getD 0
def behS (r : Int) : Int := (runes_behind.f r).getD 0
theorem num_f (r : Int) : runes_number.f r = some (numS r) := by
  unfold numS runes_number.f
  by_cases h1 : r < 0
  · simp only [if_pos h1, Option.getD_some]
  by_cases h2 : r < 55296
  · simp only [if_neg h1, if_pos h2, Option.getD_some]
  by_cases h3 : r ≤ 57343
  · simp only [if_neg h1, if_neg h2, if_pos h3, Option.getD_some]
  · simp only [if_neg h1, if_neg h2, if_neg h3, Option.getD_some]
theorem beh_f (r : Int) : runes_behind.f r = some (behS r) := by
  unfold behS runes_behind.f
  rw [num_f, is_f]
  simp only [Option.bind_some]
  cases h : isS r
  · simp
  · simp
def keepS (x : Rg) : List Sp := if x.f0 ≤ x.f1 ∧ numS x.f0 < behS x.f1 then [⟨numS x.f0, behS x.f1⟩] else []
def rawS (l : List Rg) : List Sp := l.flatMap keepS
theorem rawS_snoc (l : List Rg) (k : Nat) (x : Rg) (h : l[k]? = some x) : rawS (l.take (k + 1)) = rawS (l.take k) ++ keepS x := by
  unfold rawS
  rw [List.take_add_one, h, List.flatMap_append]
  simp
theorem rawS_len (l : List Rg) : (rawS l).length ≤ l.length := by
  induction l with
  | nil => simp [rawS]
  | cons x l ih =>
    unfold rawS at *
    rw [List.flatMap_cons, List.length_append, List.length_cons]
    have : (keepS x).length ≤ 1 := by unfold keepS; split <;> simp
    omega
theorem rawS_take (l : List Rg) (k : Nat) : (rawS (l.take k)).length ≤ k := by
  have := rawS_len (l.take k)
  rw [List.length_take] at this
  omega
theorem R_append50 {P : Program} {ops : Array Oper} {o : Oper} {a : Act} {Q : Exit → Act → World → Prop} {rest : List Oper} (hP : P = Tryd.prog) {w0 W : World} (base : Nat) (hgd : o.guard = none) (s x : Operand)
    (ho : o.op = .call { callee := .builtin .append, args := #[s, x], argTypes := #[102, 102] })
    (A : Option Addr) (c n : Nat) (xs : List Sp) (p : Sp) (hs : a.eval s = .slice A n c) (hn : xs.length = n) (hx : a.eval x = .slice (some ⟨W.heap.size, 0, none⟩) 1 1)
    (HO : Kd.R k105 105 W base (fun _ => True) (.slice A n c) xs) (HB : Below base w0 W) (hbase : base ≤ W.heap.size) (hl : (xs.length + 1) * 16 ≤ 140737488355328)
    (h : ∀ A1 c1 w1, Kd.R k105 105 w1 base (fun _ => True) (.slice A1 (n + 1) c1) (xs ++ [p]) → Below base w0 w1 → W.grownBy w1 (Value.slice A n c).ownBlock → ((Value.slice A1 (n + 1) c1).ownBlock = (Value.slice A n c).ownBlock ∨ ∃ b, (Value.slice A1 (n + 1) c1).ownBlock = some b ∧ W.heap.size ≤ b) → wpList P ops Q rest (a.put o.dst (.slice A1 (n + 1) c1)) w1) :
    wpList P ops Q (o :: rest) a (W.alloc (.cells #[.int .i64 p.f0, .int .i64 p.f1] 105)) := by
  subst hP hn
  exact R_appendS k105 (w0 := w0) base hgd s x 102 105 (.agg #[.int .i64 0, .int .i64 0]) 16 ho Tryd.underlying102 info105 rfl (by decide) (by decide) (.slice A xs.length c) xs p _ (fun _ => True) (fun _ => False) hs hx (k105_mkM _ _ _ p) (fun _ h => h.elim) (fun _ _ => trivial) HO HB hbase hl h
def okR (l : List Rg) : Bool := decide (l.length ≤ 1000000) && l.all (fun x => decide (-2147483648 ≤ x.f0) && decide (x.f0 < 2147483648) && decide (-2147483648 ≤ x.f1) && decide (x.f1 < 2147483648))
def spansS (l : List Rg) : List Sp := nfS (rawS l)
def runes_spans.f (l0 : List Rg) : Option (List Sp) := if okR l0 = true then some (spansS l0) else none
/-- the first loop: what is kept of the ranges -/
def KeptAt (l0 : List Rg) (w : World) (k : Nat) (A1 : Option Addr) (c1 : Nat) (W : World) : Prop :=
  Kd.R k105 105 W w.heap.size (fun _ => True) (.slice A1 (rawS (l0.take k)).length c1) (rawS (l0.take k)) ∧ Below w.heap.size w W
theorem num_nonneg {r : Int} (h1 : -2147483648 ≤ r) (h2 : r < 2147483648) : 0 ≤ numS r := by
  unfold numS runes_number.f
  by_cases c1 : r < 0
  · simp [c1]
  by_cases c2 : r < 55296
  · simp only [if_neg c1, if_pos c2, Option.getD_some]
    unfold wrap64
    omega
  by_cases c3 : r ≤ 57343
  · simp [c1, c2, c3]
  · simp only [if_neg c1, if_neg c2, if_neg c3, Option.getD_some]
    unfold mn wrap64
    split <;> omega
theorem okR_at {l : List Rg} (h : okR l = true) : ∀ x, x ∈ l → -2147483648 ≤ x.f0 ∧ x.f0 < 2147483648 ∧ -2147483648 ≤ x.f1 ∧ x.f1 < 2147483648 := fun x hx => by
  unfold okR at h
  simp only [Bool.and_eq_true, decide_eq_true_eq, List.all_eq_true] at h
  have h2 := h.2 x hx
  omega
theorem rawS_valid {l : List Rg} (h : okR l = true) : ∀ x, x ∈ rawS l → 0 ≤ x.1 ∧ x.1 < x.2 := fun x hx => by
  obtain ⟨y, hy, hxy⟩ := List.mem_flatMap.1 hx
  have hb := okR_at h y hy
  unfold keepS at hxy
  by_cases c : y.f0 ≤ y.f1 ∧ numS y.f0 < behS y.f1
  · rw [if_pos c] at hxy
    obtain rfl := List.mem_singleton.1 hxy
    exact ⟨num_nonneg hb.1 hb.2.1, c.2⟩
  · rw [if_neg c] at hxy
    cases hxy
/-- a row of spans of one's own, by plain addresses -/
theorem sp_own {W : World} {base n c : Nat} {ok : Nat → Prop} {A : Option Addr} {xs : List Sp} (h : Kd.R k105 105 W base ok (.slice A n c) xs) (hn : 0 < xs.length) :
    ∃ g, A = some ⟨g, 0, none⟩ ∧ base ≤ g ∧ (∃ cur, W.heap[g]? = some (.cells cur 105 (0, 0))) ∧ ∀ j x, xs[j]? = some x → W.cell? ⟨g, j * 2, none⟩ = some (.int .i64 x.f0) ∧ W.cell? ⟨g, j * 2 + 1, none⟩ = some (.int .i64 x.f1) := by
  obtain ⟨_, inner, ho, hr⟩ := h
  rcases ho.2 with ⟨_, h1⟩ | ⟨g, cap, cur, hv, hbg, hg, hnc, hcm, hcs, htake⟩
  · omega
  injection hv with hA _ hc
  subst hA hc
  refine ⟨g, rfl, hbg, ⟨cur, hg⟩, fun j x hx => ?_⟩
  have hj : j < xs.length := (List.getElem?_eq_some_iff.1 hx).1
  have htake2 : cur.toList.take (xs.length * 2) = inner := htake
  have hfl : ∀ t, t < xs.length * 2 → cur[t]? = some ((encS (xs.toArray[t / 2]!))[t % 2]!) := fun t ht => by
    have h2 := flat_inner (fun x cs h => k105_openM h) hr t ht
    rw [← htake2, List.getElem?_take, if_pos ht] at h2
    simpa using h2
  have hxj : xs.toArray[j]! = x := by
    have := (List.getElem?_eq_some_iff.1 hx).2
    simp [hj]
    exact this
  refine ⟨?_, ?_⟩
  · rw [blk_cell hg, hfl _ (by omega), show j * 2 / 2 = j by omega, show j * 2 % 2 = 0 by omega, hxj]
    rfl
  · rw [blk_cell hg, hfl _ (by omega), show (j * 2 + 1) / 2 = j by omega, show (j * 2 + 1) % 2 = 1 by omega, hxj]
    rfl
/-- the second loop: what is merged of the spans -/
def MergedAt (w5 : World) (ys : List Sp) (k : Nat) (A2 : Option Addr) (c2 : Nat) (W : World) : Prop :=
  Kd.R k105 105 W w5.heap.size (fun _ => True) (.slice A2 (mergeS (ys.take k)).length c2) (mergeS (ys.take k)) ∧ Below w5.heap.size w5 W
theorem mergeS_len (l : List Sp) : ∀ k, (mergeS (l.take k)).length ≤ k := by
  intro k
  induction k with
  | zero => simp [mergeS]
  | succ k ih =>
    by_cases h : k < l.length
    · rw [List.take_succ_eq_append_getElem h, mergeS_snoc]
      rcases List.eq_nil_or_concat (mergeS (l.take k)) with h2 | ⟨p, y, h2⟩
      · rw [h2]
        simp [stepM]
      · rw [h2, List.concat_eq_append, stepM_snoc]
        rw [h2, List.concat_eq_append, List.length_append, List.length_singleton] at ih
        split <;> simp <;> omega
    · rw [List.take_of_length_le (by omega)]
      rw [List.take_of_length_le (by omega)] at ih
      omega
set_option maxHeartbeats 4000000 in
set_option maxRecDepth 100000 in
theorem runes_spans.calls (A0 : Option Addr) (c0 : Nat) (l0 : List Rg) (r : List Sp) (w : World) (hr0 : Kd.C k56 w A0 l0.length l0) (hc0 : l0.length ≤ c0) (h : runes_spans.f l0 = some r) :
    Calls Tryd.prog 70 #[.slice A0 l0.length c0] w fun e w' => ∃ v0_ : Value, e = .returned (v0_) ∧ Kd.R k105 105 w' w.heap.size (fun _ => True) v0_ r ∧ Below w.heap.size w w' := by
  have hok : okR l0 = true := by
    unfold runes_spans.f at h
    by_cases h1 : okR l0 = true
    · exact h1
    · rw [if_neg h1] at h
      cases h
  have hr : spansS l0 = r := by
    unfold runes_spans.f at h
    rw [if_pos hok] at h
    exact Option.some.inj h
  have hl : l0.length ≤ 1000000 := by
    unfold okR at hok
    simp only [Bool.and_eq_true, decide_eq_true_eq] at hok
    exact hok.1
  have HOK := Aside0.mk hok
  have HR := Aside0.mk hr
  have HC := Aside0.mk hr0
  clear h hok hr hr0
  go_enter Tryd.func70, Tryd.ntmps70
  go_wp2
  go_loopw [3, 13] (fun s i W => ∃ (k : Nat) (A1 : Option Addr) (c1 : Nat), i = .int .i64 k ∧ k ≤ l0.length ∧ s = .slice A1 (rawS (l0.take k)).length c1 ∧ Aside0 (KeptAt l0 w k A1 c1 W)) (fun _ i _ => l0.length - (intOf i).toNat)
  case atStart => exact ⟨0, none, 0, rfl, Nat.zero_le _, rfl, ⟨Kd.R_nil _ _ _ _ _, Below.refl _ _⟩⟩
  case round =>
    obtain ⟨k, A1, c1, rfl, hkl, rfl, HK⟩ := hrel
    by_cases hlt : k < l0.length
    · obtain ⟨g, o, rfl, _, hcell⟩ := rg_cells HC.out (by omega)
      obtain ⟨x, hx⟩ : ∃ x, l0[k]? = some x := ⟨_, List.getElem?_eq_getElem hlt⟩
      obtain ⟨x0, x1⟩ := hcell k x hx
      have y0 := (HK.out.2.cell (p := ⟨g, o + k * 2, none⟩) (blk_lt' x0)).trans x0
      have y1 := (HK.out.2.cell (p := ⟨g, o + k * 2 + 1, none⟩) (blk_lt' x1)).trans x1
      have HSN := Aside0.mk (rawS_snoc l0 k x hx)
      have HRL := Aside0.mk (rawS_take l0 k)
      clear hcell hx x0 x1
      obtain ⟨lo, hi⟩ := x
      dsimp only at y0 y1
      go_upto_region 5 with (fail)
      obtain ⟨w3, hw3⟩ : ∃ w3, wr.alloc (Obj.cells #[.int .i32 lo, .int .i32 hi] 56) = w3 := ⟨_, rfl⟩
      rw [hw3]
      obtain ⟨gb, hgb⟩ : ∃ gb, wr.heap.size = gb := ⟨_, rfl⟩
      rw [hgb]
      have hbox : w3.heap[gb]? = some (.cells #[.int .i32 lo, .int .i32 hi] 56 (0, 0)) := by rw [← hw3, ← hgb]; exact blk_new _ _
      have HBOX := Aside0.mk hbox
      have HB3 : Aside0 (Below w.heap.size w w3) := ⟨hw3 ▸ below_alloc HK.out.2 _⟩
      have HR3 : Aside0 (Kd.R k105 105 w3 w.heap.size (fun _ => True) (.slice A1 (rawS (l0.take k)).length c1) (rawS (l0.take k))) := ⟨hw3 ▸ Kd.R_alloc HK.out.1 _⟩
      obtain ⟨a, ha⟩ : ∃ a, numS lo = a := ⟨_, rfl⟩
      obtain ⟨b, hb⟩ : ∃ b, behS hi = b := ⟨_, rfl⟩
      have HNA : Aside0 (runes_number.f lo = some a) := ⟨by rw [num_f, ha]⟩
      have HNB : Aside0 (runes_behind.f hi = some b) := ⟨by rw [beh_f, hb]⟩
      have HKEEP : Aside0 (keepS ⟨lo, hi⟩ = if lo ≤ hi ∧ a < b then [⟨a, b⟩] else []) := ⟨by unfold keepS; rw [ha, hb]⟩
      clear hw3 hgb ha hb y0 y1 HK
      go_cut [6] (fun v6 W => ∃ g6 : Nat, v6 = .pointer (some ⟨g6, 0, none⟩) ∧ Aside0 (W.heap[g6]? = some (.cells #[.int .i64 a, .int .i64 b] 105 (0, 0)) ∧ Below w3.heap.size w3 W))
      case first =>
        have q0 : ∀ p : Later w3, p.wx.cell? ⟨gb, 0, none⟩ = some (.int .i32 lo) := fun p => cell_after p.below ((blk_cell hbox 0).trans rfl)
        have q1 : ∀ p : Later w3, p.wx.cell? ⟨gb, 1, none⟩ = some (.int .i32 hi) := fun p => cell_after p.below ((blk_cell hbox 1).trans rfl)
        have HLAT : Aside0 (Below w3.heap.size w3 w3.drew) := ⟨below_drew1 (Below.refl _ _)⟩
        clear hbox
        refine wp_region_held (S := fun w' => ∃ p : Later w3, w' = p.wx) (by kernel_rfl) ?_
        change wpAnyH _ _ _ _ _ _ _ _ (World.drew _)
        ((refine takeQ (i := 0) (by rfl) (by kernel_rfl) (by kernel_rfl) (by kernel_rfl) ?_ ?_ ?_); (focus exact fun _ _ _ _ h => h); (focus exact ⟨⟨_, HLAT.out⟩, rfl⟩); intro K hK; go_simp; (with_reducible refine hK _ ?_); clear hK K)
        ((refine takeQ (i := 1) (by rfl) (by kernel_rfl) (by kernel_rfl) (by kernel_rfl) ?_ ?_ ?_); (focus exact fun _ _ _ _ h => h); (focus exact ⟨⟨_, HLAT.out⟩, rfl⟩); intro K hK; go_simp; (with_reducible refine hK _ ?_); clear hK K)
        ((refine takeQ (i := 3) (by rfl) (by kernel_rfl) (by kernel_rfl) (by kernel_rfl) ?_ ?_ ?_); (focus exact fun _ _ _ _ h => h); (focus exact ⟨⟨_, HLAT.out⟩, rfl⟩); intro K hK; go_simp; (with_reducible refine hK _ ?_); clear hK K)
        ((refine takeQ (i := 4) (by rfl) (by kernel_rfl) (by kernel_rfl) (by kernel_rfl) ?_ ?_ ?_); (focus exact fun _ _ _ _ h => h); (focus exact ⟨⟨_, HLAT.out⟩, rfl⟩); intro K hK; go_simp; (with_reducible refine hK _ ?_); clear hK K)
        clear q0 q1
        refine hall2 (i := 2) (j := 7) (by kernel_rfl) (by rfl) (by rfl) (fun K hK => ?_) (fun K hK => ?_)
        · go_simp
          refine (runes_number.calls lo a _ HNA.out).mono ?_
          rintro e w4 ⟨rfl, hb4⟩
          have HLw4 : Aside0 (Below w3.heap.size w3 w4) := ⟨join_below HLAT.out hb4⟩
          clear hb4
          refine hK _ _ ⟨⟨_, HLw4.out⟩, rfl⟩ ?_
          clear hK K
          refine hall2 (i := 5) (j := 7) (by kernel_rfl) (by rfl) (by rfl) (fun K hK => ?_) (fun K hK => ?_)
          · go_simp
            refine (runes_behind.calls hi b _ HNB.out).mono ?_
            rintro e w5 ⟨rfl, hb4⟩
            have HLw5 : Aside0 (Below w3.heap.size w3 w5) := ⟨join_below HLw4.out hb4⟩
            clear hb4
            refine hK _ _ ⟨⟨_, HLw5.out⟩, rfl⟩ ?_
            clear hK K
            ((refine takeQ (i := 6) (by rfl) (by kernel_rfl) (by kernel_rfl) (by kernel_rfl) ?_ ?_ ?_); (focus exact fun _ _ _ _ h => h); (focus exact ⟨⟨_, HLw5.out⟩, rfl⟩); intro K hK; go_simp; (with_reducible refine hK _ ?_); clear hK K)
            refine hall1 (i := 7) (by kernel_rfl) (by rfl) (fun K hK => ?_)
            go_simp
            obtain ⟨wA, hwA⟩ : ∃ wA, w5.alloc (Obj.cells #[.int .i64 0, .int .i64 0] 105) = wA := ⟨_, rfl⟩
            rw [hwA]
            obtain ⟨g6, hg6⟩ : ∃ g6, w5.heap.size = g6 := ⟨_, rfl⟩
            rw [hg6]
            have HN6 : Aside0 (wA.heap[g6]? = some (.cells #[.int .i64 0, .int .i64 0] 105 (0, 0))) := ⟨by rw [← hwA, ← hg6]; exact blk_new _ _⟩
            have HLA : Aside0 (Below w3.heap.size w3 wA) := ⟨hwA ▸ below_alloc HLw5.out _⟩
            have HGE : Aside0 (w3.heap.size ≤ g6) := ⟨hg6 ▸ HLw5.out.size⟩
            clear hwA hg6
            refine hK _ _ ⟨⟨_, HLA.out⟩, rfl⟩ ?_
            clear hK K
            have c60 : wA.cell? ⟨g6, 0, none⟩ = some (.int .i64 0) := (blk_cell HN6.out 0).trans rfl
            have c61 : wA.cell? ⟨g6, 1, none⟩ = some (.int .i64 0) := (blk_cell HN6.out 1).trans rfl
            have f60 : wA.frozen? ⟨g6, 0, none⟩ = false := blk_frozen HN6.out 0
            have f61 : wA.frozen? ⟨g6, 1, none⟩ = false := blk_frozen HN6.out 1
            refine hall1 (i := 8) (by kernel_rfl) (by rfl) (fun K hK => ?_)
            go_simp
            have HLZ : Aside0 (Below w3.heap.size w3 ((wA.setCell ⟨g6, 0, none⟩ (.int .i64 a)).setCell ⟨g6, 1, none⟩ (.int .i64 b))) := ⟨(HLA.out.setCell (p := ⟨g6, 0, none⟩) HGE.out _).setCell (p := ⟨g6, 1, none⟩) HGE.out _⟩
            refine hK _ _ ⟨⟨_, HLZ.out⟩, rfl⟩ ?_
            clear hK K
            refine wpAnyH_done (by kernel_rfl) ?_ _
            clear c60 c61 f60 f61
            go_wp2
            go_meet
            case rel => exact ⟨g6, rfl, ⟨blk_put (blk_put HN6.out 0 _ rfl) 1 _ rfl, HLZ.out⟩⟩
          · go_simp
            obtain ⟨wA, hwA⟩ : ∃ wA, w4.alloc (Obj.cells #[.int .i64 0, .int .i64 0] 105) = wA := ⟨_, rfl⟩
            rw [hwA]
            obtain ⟨g6, hg6⟩ : ∃ g6, w4.heap.size = g6 := ⟨_, rfl⟩
            rw [hg6]
            have HN6 : Aside0 (wA.heap[g6]? = some (.cells #[.int .i64 0, .int .i64 0] 105 (0, 0))) := ⟨by rw [← hwA, ← hg6]; exact blk_new _ _⟩
            have HLA : Aside0 (Below w3.heap.size w3 wA) := ⟨hwA ▸ below_alloc HLw4.out _⟩
            have HGE : Aside0 (w3.heap.size ≤ g6) := ⟨hg6 ▸ HLw4.out.size⟩
            clear hwA hg6
            refine hK _ _ ⟨⟨_, HLA.out⟩, rfl⟩ ?_
            clear hK K
            refine hall1 (i := 5) (by kernel_rfl) (by rfl) (fun K hK => ?_)
            go_simp
            refine (runes_behind.calls hi b _ HNB.out).mono ?_
            rintro e w5 ⟨rfl, hb4⟩
            have HLw5 : Aside0 (Below w3.heap.size w3 w5) := ⟨join_below HLA.out hb4⟩
            have HN6 := Aside0.mk ((hb4.block g6 (blk_lt HN6.out)).trans HN6.out)
            clear hb4
            refine hK _ _ ⟨⟨_, HLw5.out⟩, rfl⟩ ?_
            clear hK K
            ((refine takeQ (i := 6) (by rfl) (by kernel_rfl) (by kernel_rfl) (by kernel_rfl) ?_ ?_ ?_); (focus exact fun _ _ _ _ h => h); (focus exact ⟨⟨_, HLw5.out⟩, rfl⟩); intro K hK; go_simp; (with_reducible refine hK _ ?_); clear hK K)
            have c60 : w5.cell? ⟨g6, 0, none⟩ = some (.int .i64 0) := (blk_cell HN6.out 0).trans rfl
            have c61 : w5.cell? ⟨g6, 1, none⟩ = some (.int .i64 0) := (blk_cell HN6.out 1).trans rfl
            have f60 : w5.frozen? ⟨g6, 0, none⟩ = false := blk_frozen HN6.out 0
            have f61 : w5.frozen? ⟨g6, 1, none⟩ = false := blk_frozen HN6.out 1
            refine hall1 (i := 8) (by kernel_rfl) (by rfl) (fun K hK => ?_)
            go_simp
            have HLZ : Aside0 (Below w3.heap.size w3 ((w5.setCell ⟨g6, 0, none⟩ (.int .i64 a)).setCell ⟨g6, 1, none⟩ (.int .i64 b))) := ⟨(HLw5.out.setCell (p := ⟨g6, 0, none⟩) HGE.out _).setCell (p := ⟨g6, 1, none⟩) HGE.out _⟩
            refine hK _ _ ⟨⟨_, HLZ.out⟩, rfl⟩ ?_
            clear hK K
            refine wpAnyH_done (by kernel_rfl) ?_ _
            clear c60 c61 f60 f61
            go_wp2
            go_meet
            case rel => exact ⟨g6, rfl, ⟨blk_put (blk_put HN6.out 0 _ rfl) 1 _ rfl, HLZ.out⟩⟩
        · go_simp
          obtain ⟨wA, hwA⟩ : ∃ wA, (w3.alloc (Obj.cells #[.int .i64 0, .int .i64 0] 105)).drew = wA := ⟨_, rfl⟩
          rw [hwA]
          obtain ⟨g6, hg6⟩ : ∃ g6, w3.heap.size = g6 := ⟨_, rfl⟩
          rw [hg6]
          have HN6 : Aside0 (wA.heap[g6]? = some (.cells #[.int .i64 0, .int .i64 0] 105 (0, 0))) := ⟨by rw [← hwA, ← hg6]; exact blk_new w3 _⟩
          have HLA : Aside0 (Below w3.heap.size w3 wA) := ⟨hwA ▸ below_drew1 (below1 w3 _)⟩
          have HGE : Aside0 (w3.heap.size ≤ g6) := ⟨Nat.le_of_eq hg6⟩
          clear hwA hg6
          refine hK _ _ ⟨⟨_, HLA.out⟩, rfl⟩ ?_
          clear hK K
          refine hall1 (i := 2) (by kernel_rfl) (by rfl) (fun K hK => ?_)
          go_simp
          refine (runes_number.calls lo a _ HNA.out).mono ?_
          rintro e w4 ⟨rfl, hb4⟩
          have HLw4 : Aside0 (Below w3.heap.size w3 w4) := ⟨join_below HLA.out hb4⟩
          have HN6 := Aside0.mk ((hb4.block g6 (blk_lt HN6.out)).trans HN6.out)
          clear hb4
          refine hK _ _ ⟨⟨_, HLw4.out⟩, rfl⟩ ?_
          clear hK K
          refine hall1 (i := 5) (by kernel_rfl) (by rfl) (fun K hK => ?_)
          go_simp
          refine (runes_behind.calls hi b _ HNB.out).mono ?_
          rintro e w5 ⟨rfl, hb4⟩
          have HLw5 : Aside0 (Below w3.heap.size w3 w5) := ⟨join_below HLw4.out hb4⟩
          have HN6 := Aside0.mk ((hb4.block g6 (blk_lt HN6.out)).trans HN6.out)
          clear hb4
          refine hK _ _ ⟨⟨_, HLw5.out⟩, rfl⟩ ?_
          clear hK K
          ((refine takeQ (i := 6) (by rfl) (by kernel_rfl) (by kernel_rfl) (by kernel_rfl) ?_ ?_ ?_); (focus exact fun _ _ _ _ h => h); (focus exact ⟨⟨_, HLw5.out⟩, rfl⟩); intro K hK; go_simp; (with_reducible refine hK _ ?_); clear hK K)
          have c60 : w5.cell? ⟨g6, 0, none⟩ = some (.int .i64 0) := (blk_cell HN6.out 0).trans rfl
          have c61 : w5.cell? ⟨g6, 1, none⟩ = some (.int .i64 0) := (blk_cell HN6.out 1).trans rfl
          have f60 : w5.frozen? ⟨g6, 0, none⟩ = false := blk_frozen HN6.out 0
          have f61 : w5.frozen? ⟨g6, 1, none⟩ = false := blk_frozen HN6.out 1
          refine hall1 (i := 8) (by kernel_rfl) (by rfl) (fun K hK => ?_)
          go_simp
          have HLZ : Aside0 (Below w3.heap.size w3 ((w5.setCell ⟨g6, 0, none⟩ (.int .i64 a)).setCell ⟨g6, 1, none⟩ (.int .i64 b))) := ⟨(HLw5.out.setCell (p := ⟨g6, 0, none⟩) HGE.out _).setCell (p := ⟨g6, 1, none⟩) HGE.out _⟩
          refine hK _ _ ⟨⟨_, HLZ.out⟩, rfl⟩ ?_
          clear hK K
          refine wpAnyH_done (by kernel_rfl) ?_ _
          clear c60 c61 f60 f61
          go_wp2
          go_meet
          case rel => exact ⟨g6, rfl, ⟨blk_put (blk_put HN6.out 0 _ rfl) 1 _ rfl, HLZ.out⟩⟩
      case rest =>
        obtain ⟨g6, rfl, HE⟩ := hcut
        have HBOX4 := Aside0.mk ((HE.out.2.block gb (blk_lt HBOX.out)).trans HBOX.out)
        have b0 : wc.cell? ⟨gb, 0, none⟩ = some (.int .i32 lo) := (blk_cell HBOX4.out 0).trans rfl
        have b1 : wc.cell? ⟨gb, 1, none⟩ = some (.int .i32 hi) := (blk_cell HBOX4.out 1).trans rfl
        have s0 : wc.cell? ⟨g6, 0, none⟩ = some (.int .i64 a) := (blk_cell HE.out.1 0).trans rfl
        have s1 : wc.cell? ⟨g6, 1, none⟩ = some (.int .i64 b) := (blk_cell HE.out.1 1).trans rfl
        have HB4 := Aside0.mk (join_below HB3.out HE.out.2)
        have HR4 := Aside0.mk (Kd.R_below HR3.out HE.out.2)
        clear hbox
        by_cases h1 : lo ≤ hi
        · by_cases h2 : a < b
          · have HK5 : Aside0 (rawS (l0.take (k + 1)) = rawS (l0.take k) ++ [⟨a, b⟩]) := ⟨by rw [HSN.out, HKEEP.out, if_pos ⟨h1, h2⟩]⟩
            go_wp2_with ((with_reducible refine gate_builtin (b := .append) (xs := #[.tmp 36, .tmp 38]) rfl ?_); refine R_append50 rfl (w0 := wc) w.heap.size rfl (.tmp 36) (.tmp 38) rfl A1 c1 (rawS (l0.take k)).length (rawS (l0.take k)) ⟨a, b⟩ rfl rfl rfl HR4.out (Below.refl _ _) HB4.out.size ?hl ?_; (case hl => have := HRL.out; omega); intro A5 c5 w5 hR5 hb5 hg5 hn5)
            go_roundw
            case rel => exact ⟨k + 1, A5, c5, by go_num, by omega, by rw [HK5.out]; simp, ⟨by unfold KeptAt; rw [HK5.out, List.length_append]; exact ⟨hR5, HB4.out.trans hb5⟩⟩⟩
            case measure => simp [intOf]; omega
          · have HK5 : Aside0 (rawS (l0.take (k + 1)) = rawS (l0.take k)) := ⟨by rw [HSN.out, HKEEP.out, if_neg (fun h => h2 h.2), List.append_nil]⟩
            go_wp2
            repeat (go_quiet (fail); try go_wp2)
            go_roundw
            case rel => exact ⟨k + 1, A1, c1, by go_num, by omega, by rw [HK5.out], ⟨by unfold KeptAt; rw [HK5.out]; exact ⟨HR4.out, HB4.out⟩⟩⟩
            case measure => simp [intOf]; omega
        · have HK5 : Aside0 (rawS (l0.take (k + 1)) = rawS (l0.take k)) := ⟨by rw [HSN.out, HKEEP.out, if_neg (fun h => h1 h.1), List.append_nil]⟩
          have hd1 : decide (lo ≤ hi) = false := decide_eq_false h1
          go_wp2
          repeat (go_quiet (fail); try go_wp2)
          go_roundw
          case rel => exact ⟨k + 1, A1, c1, by go_num, by omega, by rw [HK5.out], ⟨by unfold KeptAt; rw [HK5.out]; exact ⟨HR4.out, HB4.out⟩⟩⟩
          case measure => simp [intOf]; omega
    · have e : l0.take k = l0 := List.take_of_length_le (by omega)
      obtain ⟨hR1, hB1⟩ := HK.out
      have hxl : (rawS l0).length ≤ 1000000 := Nat.le_trans (rawS_len l0) hl
      rw [e] at hR1 ⊢
      have HFIN : Aside0 (∀ ys : List Sp, (∀ x, x ∈ ys ↔ x ∈ rawS l0) → (∀ i j (hi : i < j) (hj : j < ys.length), (ys[i]'(by omega)).1 ≤ ys[j].1) → mergeS ys = r ∧ ∀ x, x ∈ ys → 0 ≤ x.1 ∧ x.1 < x.2) := ⟨fun ys h1 h2 => ⟨(merge_any h1 h2 (rawS_valid HOK.out)).trans HR.out, fun x hx => rawS_valid HOK.out x ((h1 x).1 hx)⟩⟩
      obtain ⟨xs, hxs⟩ : ∃ xs, rawS l0 = xs := ⟨_, rfl⟩
      rw [hxs] at hR1 hxl HFIN ⊢
      have HR1 := Aside0.mk hR1
      have HB1 := Aside0.mk hB1
      clear e hR1 hB1 hxs HK HR HOK
      go_wp2_with fail
      refine (sort_any A1 xs c1 w.heap.size _ HR1.out (by omega)).mono ?_
      rintro e w5 ⟨rfl, ys, hyl, hym, hys, hR5, hb5⟩
      have HF := Aside0.mk (HFIN.out ys hym hys)
      have HM := Aside0.mk (merged_all ys hys HF.out.2)
      have HY5 : Aside0 (Kd.R k105 105 w5 w.heap.size (fun _ => True) (.slice A1 ys.length c1) ys) := ⟨by rw [hyl]; exact hR5⟩
      have HB5 := Aside0.mk (HB1.out.trans hb5)
      rw [← hyl]
      have hyb : ys.length ≤ 1000000 := by omega
      clear hyl hym hys hR5 hb5 HFIN HR1 HB1 hxl
      go_wp2_with fail
      go_loopw [7, 45] (fun v i W => ∃ (k : Nat) (A2 : Option Addr) (c2 : Nat), i = .int .i64 k ∧ k ≤ ys.length ∧ v = .slice A2 (mergeS (ys.take k)).length c2 ∧ Aside0 (MergedAt w5 ys k A2 c2 W)) (fun _ i _ => ys.length - (intOf i).toNat)
      case atStart => exact ⟨0, none, 0, rfl, Nat.zero_le _, rfl, ⟨Kd.R_nil _ _ _ _ _, Below.refl _ _⟩⟩
      case round =>
        obtain ⟨k, A2, c2, rfl, hkl, rfl, HK⟩ := hrel
        rename_i wr _
        by_cases hlt : k < ys.length
        · have hK := HK.out
          unfold MergedAt at hK
          obtain ⟨hKR, hKB⟩ := hK
          have HB := Aside0.mk hKB
          obtain ⟨x, hx⟩ : ∃ x, ys[k]? = some x := ⟨_, List.getElem?_eq_getElem hlt⟩
          obtain ⟨gy, rfl, _, _, hcy⟩ := sp_own HY5.out (by omega)
          obtain ⟨z0, z1⟩ := hcy k x hx
          have y0 := cell_after hKB z0
          have y1 := cell_after hKB z1
          have HSTEP : Aside0 (mergeS (ys.take (k + 1)) = stepM (mergeS (ys.take k)) x) := ⟨by rw [List.take_add_one, hx]; exact mergeS_snoc _ _⟩
          have HLEN := Aside0.mk (mergeS_len ys k)
          obtain ⟨O, hO⟩ : ∃ O, mergeS (ys.take k) = O := ⟨_, rfl⟩
          rw [hO] at hKR HSTEP HLEN ⊢
          obtain ⟨xa, xb⟩ := x
          dsimp only at y0 y1
          clear hKB hcy z0 z1 hx hO HK HM HF
          rcases List.eq_nil_or_concat O with rfl | ⟨p, y, rfl⟩
          · have HO : Aside0 (Kd.R k105 105 wr w5.heap.size (fun _ => True) (.slice A2 0 c2) []) := ⟨hKR⟩
            have HST2 : Aside0 (mergeS (ys.take (k + 1)) = [⟨xa, xb⟩]) := ⟨HSTEP.out⟩
            clear hKR HSTEP
            go_upto_region 15 with (fail)
            obtain ⟨w3, hw3⟩ : ∃ w3, wr.alloc (Obj.cells #[.int .i64 xa, .int .i64 xb] 105) = w3 := ⟨_, rfl⟩
            rw [hw3]
            obtain ⟨g9, hg9⟩ : ∃ g9, wr.heap.size = g9 := ⟨_, rfl⟩
            rw [hg9]
            have h9 : w3.heap[g9]? = some (.cells #[.int .i64 xa, .int .i64 xb] 105 (0, 0)) := by rw [← hw3, ← hg9]; exact blk_new _ _
            have c90 : w3.cell? ⟨g9, 0, none⟩ = some (.int .i64 xa) := (blk_cell h9 0).trans rfl
            have c91 : w3.cell? ⟨g9, 1, none⟩ = some (.int .i64 xb) := (blk_cell h9 1).trans rfl
            have HB3 : Aside0 (Below w5.heap.size w5 w3) := ⟨hw3 ▸ below_alloc HB.out _⟩
            have HO3 := Aside0.mk (show Kd.R k105 105 w3 w5.heap.size (fun _ => True) (.slice A2 0 c2) [] from hw3 ▸ Kd.R_alloc HO.out _)
            clear hw3 hg9 h9 y0 y1 HO HB
            go_quiet (fail)
            go_wp2_with ((with_reducible refine gate_builtin (b := .append) (xs := #[.tmp 78, .tmp 80]) rfl ?_); refine R_append50 rfl (w0 := w3.drewN nq) w5.heap.size rfl (.tmp 78) (.tmp 80) rfl A2 c2 0 [] ⟨xa, xb⟩ rfl rfl rfl (Kd.R_below HO3.out (pw_below_drewN (Below.refl _ _) _)) (Below.refl _ _) HB3.out.size ?hl2 ?_; (case hl2 => decide); intro A7 c7 w7 hR7 hb7 hg7 hn7)
            go_roundw
            case rel => exact ⟨k + 1, A7, c7, by go_num, by omega, by rw [HST2.out]; rfl, ⟨by unfold MergedAt; rw [HST2.out]; exact ⟨hR7, (pw_below_drewN HB3.out _).trans hb7⟩⟩⟩
            case measure => simp [intOf]; omega
          · obtain ⟨m, hm⟩ : ∃ m, p.length = m := ⟨_, rfl⟩
            have hlen : (p.concat y).length = m + 1 := by simp [hm]
            rw [hlen] at hKR HLEN ⊢
            rw [List.concat_eq_append] at hKR HSTEP
            have HO := Aside0.mk hKR
            obtain ⟨g2, rfl, hg2, ⟨cur, hcur⟩, hc2⟩ := sp_own hKR (by simp)
            have hy : (p ++ [y])[m]? = some y := by rw [← hm]; simp
            obtain ⟨_, v1⟩ := hc2 m y hy
            have hst := HSTEP.out
            rw [stepM_snoc] at hst
            obtain ⟨ya, yb⟩ := y
            dsimp only at v1 hst
            have HST := Aside0.mk hst
            have hmb : (m : Int) ≤ 1000000 := by have := HLEN.out; omega
            have hw0 : IntKind.i64.wrap (m : Int) = m := by rw [IntKind.wrap_i64]; omega
            have HM := Aside0.mk hm
            clear hKR HSTEP hc2 hy hst hlen hm
            go_upto_region 15 with (fail)
            obtain ⟨w3, hw3⟩ : ∃ w3, wr.alloc (Obj.cells #[.int .i64 xa, .int .i64 xb] 105) = w3 := ⟨_, rfl⟩
            rw [hw3]
            obtain ⟨g9, hg9⟩ : ∃ g9, wr.heap.size = g9 := ⟨_, rfl⟩
            rw [hg9]
            have h9 : w3.heap[g9]? = some (.cells #[.int .i64 xa, .int .i64 xb] 105 (0, 0)) := by rw [← hw3, ← hg9]; exact blk_new _ _
            have c90 : w3.cell? ⟨g9, 0, none⟩ = some (.int .i64 xa) := (blk_cell h9 0).trans rfl
            have c91 : w3.cell? ⟨g9, 1, none⟩ = some (.int .i64 xb) := (blk_cell h9 1).trans rfl
            have HB3 : Aside0 (Below w5.heap.size w5 w3) := ⟨hw3 ▸ below_alloc HB.out _⟩
            have HO3 := Aside0.mk (show Kd.R k105 105 w3 w5.heap.size (fun _ => True) (.slice (some ⟨g2, 0, none⟩) (m + 1) c2) (p ++ [⟨ya, yb⟩]) from hw3 ▸ Kd.R_alloc HO.out _)
            have v3 : w3.cell? ⟨g2, m * 2 + 1, none⟩ = some (.int .i64 yb) := by rw [← hw3]; exact cell_after (below1 _ _) v1
            have hcur3 : w3.heap[g2]? = some (.cells cur 105 (0, 0)) := by rw [← hw3]; exact ((below1 wr _).block g2 (blk_lt hcur)).trans hcur
            have HC3 := Aside0.mk hcur3
            clear hw3 hg9 h9 y0 y1 HO HB v1 hcur hcur3
            by_cases hxy : xa ≤ yb
            · have HST2 : Aside0 (mergeS (ys.take (k + 1)) = p ++ [⟨ya, max yb xb⟩]) := ⟨by have h := HST.out; rw [if_pos hxy] at h; exact h⟩
              go_quiet (fail)
              go_wp2_with fail
              obtain ⟨w4, hw4⟩ : ∃ w4, w3.drewN nq = w4 := ⟨_, rfl⟩
              rw [hw4]
              have u91 : w4.cell? ⟨g9, 1, none⟩ = some (.int .i64 xb) := by rw [← hw4]; simpa using c91
              have u3 : w4.cell? ⟨g2, m * 2 + 1, none⟩ = some (.int .i64 yb) := by rw [← hw4]; simpa using v3
              have hc4 : w4.heap[g2]? = some (.cells cur 105 (0, 0)) := by rw [← hw4]; exact HC3.out
              have f3 := blk_frozen hc4 (m * 2 + 1)
              have HB4 : Aside0 (Below w5.heap.size w5 w4) := ⟨hw4 ▸ pw_below_drewN HB3.out _⟩
              have HO4 : Aside0 (Kd.R k105 105 w4 w5.heap.size (fun _ => True) (.slice (some ⟨g2, 0, none⟩) (m + 1) c2) (p ++ [⟨ya, yb⟩])) := ⟨hw4 ▸ Kd.R_below HO3.out (pw_below_drewN (Below.refl _ _) _)⟩
              obtain ⟨g2', e2, _, _, hcc⟩ := sp_own HO4.out (by simp)
              injection e2 with e2
              injection e2 with e2
              subst e2
              obtain ⟨t0, t1⟩ := hcc m ⟨ya, yb⟩ (by rw [← HM.out]; simp)
              have t0' : w4.cell? ⟨g2, m * 2, none⟩ = some (.int .i64 ya) := t0
              clear t1 hcc hw4 c90 c91 v3
              have hlt1 : (m : Int) < (m : Int) + 1 := by omega
              have HSEG : Aside0 (Kd.R k105 105 (w4.setCell ⟨g2, m * 2 + 1, none⟩ (.int .i64 (max yb xb))) w5.heap.size (fun _ => True) (.slice (some ⟨g2, 0, none⟩) (m + 1) c2) (p ++ [⟨ya, max yb xb⟩])) := ⟨by
                have h := (Kd.R_seg HO4.out (m : Int) (by omega) (by omega) (c := [.int .i64 ya, .int .i64 yb]) (seg := [.int .i64 (max yb xb)]) (j := 1) rfl (fun j u hu => by
                  rw [Int.toNat_natCast]
                  match j, hu with
                  | 0, hu => injection hu with hu; subst hu; exact t0'
                  | 1, hu => injection hu with hu; subst hu; exact u3) (by show 1 + 1 ≤ 2; omega) (x' := ⟨ya, max yb xb⟩) (okp := fun _ => False) (k105_mkM _ _ _ _) (fun _ h => h.elim)).1
                rw [Int.toNat_natCast] at h
                have e : (p ++ [(⟨ya, yb⟩ : Sp)]).set m ⟨ya, max yb xb⟩ = p ++ [⟨ya, max yb xb⟩] := by
                  rw [← HM.out, List.set_append_right _ _ (Nat.le_refl _), Nat.sub_self]
                  rfl
                rw [e] at h
                exact h⟩
              have HBS : Aside0 (Below w5.heap.size w5 (w4.setCell ⟨g2, m * 2 + 1, none⟩ (.int .i64 (max yb xb)))) := ⟨HB4.out.setCell (p := ⟨g2, m * 2 + 1, none⟩) hg2 _⟩
              clear t0 t0'
              go_still_tail 14, (by kernel_rfl)
              change wpList _ _ _ _ _ w4.drew
              go_wp2
              go_roundw
              case rel => exact ⟨k + 1, some ⟨g2, 0, none⟩, c2, by go_num, by omega, by rw [HST2.out]; simp [HM.out], ⟨by unfold MergedAt; rw [HST2.out, show (p ++ [(⟨ya, max yb xb⟩ : Sp)]).length = m + 1 by simp [HM.out]]; first | exact ⟨HSEG.out, HBS.out⟩ | exact ⟨Kd.R_below HSEG.out (below_drew1 (Below.refl _ _)), below_drew1 HBS.out⟩⟩⟩
              case measure => simp [intOf]; omega
            · have HST2 : Aside0 (mergeS (ys.take (k + 1)) = p ++ [⟨ya, yb⟩] ++ [⟨xa, xb⟩]) := ⟨by have h := HST.out; rw [if_neg hxy] at h; exact h⟩
              go_quiet (fail)
              go_wp2_with ((with_reducible refine gate_builtin (b := .append) (xs := #[.tmp 78, .tmp 80]) rfl ?_); refine R_append50 rfl (w0 := w3.drewN nq) w5.heap.size rfl (.tmp 78) (.tmp 80) rfl (some ⟨g2, 0, none⟩) c2 (m + 1) (p ++ [⟨ya, yb⟩]) ⟨xa, xb⟩ rfl ?hn2 rfl (Kd.R_below HO3.out (pw_below_drewN (Below.refl _ _) _)) (Below.refl _ _) HB3.out.size ?hl3 ?_; (case hn2 => rw [List.length_append, HM.out]; rfl); (case hl3 => rw [List.length_append, HM.out]; show (m + 1 + 1) * 16 ≤ _; omega); intro A7 c7 w7 hR7 hb7 hg7 hn7)
              go_roundw
              case rel => exact ⟨k + 1, A7, c7, by go_num, by omega, by rw [HST2.out]; simp [HM.out], ⟨by unfold MergedAt; rw [HST2.out, show (p ++ [(⟨ya, yb⟩ : Sp)] ++ [(⟨xa, xb⟩ : Sp)]).length = m + 1 + 1 by simp [HM.out]]; exact ⟨hR7, (pw_below_drewN HB3.out _).trans hb7⟩⟩⟩
              case measure => simp [intOf]; omega
        · have e : ys.take k = ys := List.take_of_length_le (by omega)
          have hK := HK.out
          unfold MergedAt at hK
          rw [e] at hK ⊢
          rw [HF.out.1] at hK ⊢
          have HR9 := Aside0.mk hK.1
          have HB9 := Aside0.mk hK.2
          clear e hK HK HF HM
          go_wp2
          go_ret
          exact ⟨_, rfl, Kd.R_lower HR9.out (HB5.out.size), HB5.out.trans (HB9.out.mono HB5.out.size)⟩
end Go.Proofs.YthdfmbmbjpmlaaaDoor.Rn
namespace Go.Proofs.YthdfmbmbjpmlaaaDoor.Rn
open Go.RowKit Go.Proofs.YthdfmbmbjpmlaaaDoorW.PrintWords Go.Proofs.YthdfmbmbjpmlaaaDoorW.PrintLast Go.Proofs.YthdfmbmbjpmlaaaDoorW.PrintMore
attribute [local go_sem] max2_int min2_int max_two min_two max_three min_three max_four min_four   -- for this text's walks alone
set_option linter.unusedVariables false
set_option linter.unusedSimpArgs false
/-! ### runes_Norm: function 67 -/
def runes_Norm.f (k : Nat) (l0 : List (S56)) : Option ((List (S56))) := (runes_spans.f l0).bind fun t286 => ((runes_ranges.f k t286).bind fun t289 => (some t289))
theorem runes_Norm.mono : ∀ a0 k, LeO (runes_Norm.f k a0) (runes_Norm.f (k + 1) a0) := by
  intro a0 k
  unfold runes_Norm.f
  repeat' first
      | (with_reducible exact runes_ranges.mono _ _)
      | (with_reducible exact LeO.refl _)
      | (with_reducible exact LeO.none _)
      | (with_reducible refine LeO.ite ?_ ?_)
      | (with_reducible refine LeO.bind ?_ (fun _ => ?_))
      | exact runes_ranges.mono _ _
      | exact LeO.none _
      | refine LeO.ite ?_ ?_
      | refine LeO.bind ?_ (fun _ => ?_)
set_option maxHeartbeats 8000000 in
set_option maxRecDepth 100000 in
theorem runes_Norm.calls (k : Nat) (A0 : Option Addr) (c0 : Nat) (l0 : List (S56)) (r : List (S56)) (w : World) (hr0 : Kd.C k56 w A0 l0.length l0) (hc0 : l0.length ≤ c0) (h : runes_Norm.f k l0 = some r) :
    Calls Tryd.prog 67 #[.slice A0 l0.length c0] w fun e w' => ∃ v0_ : Value, e = .returned (v0_) ∧ Kd.R k56 56 w' w.heap.size (fun _ => True) v0_ r ∧ Below w.heap.size w w' := by
  have HR0 := Aside0.mk hr0
  have HC0 := Aside0.mk hc0
  clear hr0 hc0
  have HB := Aside0.mk (Below.refl w.heap.size w)
  have H : ((runes_spans.f l0).bind fun t286 => ((runes_ranges.f k t286).bind fun t289 => (some t289))) = some r := h
  clear h
  replace H := Option.bind_eq_some_iff.mp H
  obtain ⟨t286, A20, H⟩ := H
  replace H : ((runes_ranges.f k t286).bind fun t289 => (some t289)) = some r := H
  have A2 := Aside0.mk A20
  clear A20
  replace H := Option.bind_eq_some_iff.mp H
  obtain ⟨t289, A30, H⟩ := H
  replace H : (some t289) = some r := H
  have A3 := Aside0.mk A30
  clear A30
  obtain rfl := Option.some.inj H
  go_enter Tryd.func67, Tryd.ntmps67
  go_wp2_with (first | ((with_reducible refine gate_callee (f := 70) rfl ?_); refine goesL_ (some 4) rfl rfl Tryd.func70 (by kernel_rfl) rfl #[.slice A0 l0.length c0] rfl (by (try simp only [List.map_toArray, List.map_cons, List.map_nil]); first | done | rfl | (simp only [List.length_drop, List.length_take]; rfl)) ?_; (with_reducible refine (runes_spans.calls _ _ l0 t286 _ ?side1 ?side2 A2.out).mono ?_); (case side1 => repeat (first | exact HR0.out | (with_reducible refine Kd.C_alloc ?_ _) | (with_reducible refine Kd.C_drewN ?_ _) | (with_reducible refine Kd.C_drew ?_))); (case side2 => exact HC0.out); rintro e w4 ⟨v287, rfl, ho0, hb⟩; refine ⟨_, rfl, ?_⟩; have n0_ := Aside0.mk (Kd.R_lower ho0 (below_size (by repeat (first | (with_reducible first | exact HB.out | apply below_alloc | apply pw_below_drewN | apply below_drew1) | exact HB.out)))); have n1_ := Aside0.mk (below_step (by repeat (first | (with_reducible first | exact HB.out | apply below_alloc | apply pw_below_drewN | apply below_drew1) | exact HB.out)) hb); clear HB; have HO288 := n0_; have HB := n1_; clear n0_ n1_; (try clear hb); (try clear hb2); (try clear hk); (try clear hi); (try clear ho0); obtain ⟨Ao5, co5, eo5⟩ := Kd.R_slice HO288.out; subst eo5) | ((with_reducible refine gate_callee (f := 69) rfl ?_); refine goesL_ (some 5) rfl rfl Tryd.func69 (by kernel_rfl) rfl #[.slice Ao5 t286.length co5] rfl (by (try simp only [List.map_toArray, List.map_cons, List.map_nil]); first | done | rfl | (simp only [List.length_drop, List.length_take]; rfl)) ?_; (with_reducible refine (runes_ranges.calls k _ _ t286 t289 _ ?side1 ?side2 A3.out).mono ?_); (case side1 => repeat (first | exact (Kd.R_reads' HO288.out).2.2 | (with_reducible refine Kd.C_alloc ?_ _) | (with_reducible refine Kd.C_drewN ?_ _) | (with_reducible refine Kd.C_drew ?_))); (case side2 => exact (Kd.R_reads' HO288.out).2.1); rintro e w6 ⟨v290, rfl, ho0, hb⟩; refine ⟨_, rfl, ?_⟩; have n0_ := Aside0.mk (Kd.R_below (by (with_reducible repeat (first | apply Kd.R_alloc | apply Kd.R_drewN | apply Kd.R_drew)); exact HO288.out) hb); have n1_ := Aside0.mk (Kd.R_lower ho0 (below_size (by repeat (first | (with_reducible first | exact HB.out | apply below_alloc | apply pw_below_drewN | apply below_drew1) | exact HB.out)))); have n2_ := Aside0.mk (below_step (by repeat (first | (with_reducible first | exact HB.out | apply below_alloc | apply pw_below_drewN | apply below_drew1) | exact HB.out)) hb); clear HO288; clear HB; have HO288 := n0_; have HO291 := n1_; have HB := n2_; clear n0_ n1_ n2_; (try clear hb); (try clear hb2); (try clear hk); (try clear hi); (try clear ho0)))
  go_ret
  exact ⟨_, by first | rfl | (simp [errW_none, errW_some] <;> rfl) | (simp [*, errW_none, errW_some] <;> rfl), by (with_reducible repeat (first | apply Kd.R_alloc | apply Kd.R_drewN | apply Kd.R_drew)); exact HO291.out, by repeat (first | (with_reducible first | exact HB.out | apply below_alloc | apply pw_below_drewN | apply below_drew1) | exact HB.out)⟩

/-! ### runes_May: function 62 -/
def runes_May.f (k : Nat) (l0 : List (S56)) : Option (Bool) := (runes_Norm.f k l0).bind fun t292 => ((api_Range.f k l0 t292).bind fun t295 => (some t295))
theorem runes_May.mono : ∀ a0 k, LeO (runes_May.f k a0) (runes_May.f (k + 1) a0) := by
  intro a0 k
  unfold runes_May.f
  repeat' first
      | (with_reducible exact api_Range.mono _ _ _)
      | (with_reducible exact runes_Norm.mono _ _)
      | (with_reducible exact LeO.refl _)
      | (with_reducible exact LeO.none _)
      | (with_reducible refine LeO.ite ?_ ?_)
      | (with_reducible refine LeO.bind ?_ (fun _ => ?_))
      | exact api_Range.mono _ _ _
      | exact runes_Norm.mono _ _
      | exact LeO.none _
      | refine LeO.ite ?_ ?_
      | refine LeO.bind ?_ (fun _ => ?_)
set_option maxHeartbeats 8000000 in
set_option maxRecDepth 100000 in
theorem runes_May.calls (k : Nat) (A0 : Option Addr) (c0 : Nat) (l0 : List (S56)) (r : Bool) (w : World) (hr0 : Kd.C k56 w A0 l0.length l0) (hc0 : l0.length ≤ c0) (h : runes_May.f k l0 = some r) :
    Calls Tryd.prog 62 #[.slice A0 l0.length c0] w fun e w' => e = .returned (.bool r) ∧ Below w.heap.size w w' := by
  have HR0 := Aside0.mk hr0
  have HC0 := Aside0.mk hc0
  clear hr0 hc0
  have HB := Aside0.mk (Below.refl w.heap.size w)
  have H : ((runes_Norm.f k l0).bind fun t292 => ((api_Range.f k l0 t292).bind fun t295 => (some t295))) = some r := h
  clear h
  replace H := Option.bind_eq_some_iff.mp H
  obtain ⟨t292, A20, H⟩ := H
  replace H : ((api_Range.f k l0 t292).bind fun t295 => (some t295)) = some r := H
  have A2 := Aside0.mk A20
  clear A20
  replace H := Option.bind_eq_some_iff.mp H
  obtain ⟨t295, A30, H⟩ := H
  replace H : (some t295) = some r := H
  have A3 := Aside0.mk A30
  clear A30
  obtain rfl := Option.some.inj H
  go_enter Tryd.func62, Tryd.ntmps62
  go_wp2_with (first | ((with_reducible refine gate_callee (f := 67) rfl ?_); refine goesL_ (some 5) rfl rfl Tryd.func67 (by kernel_rfl) rfl #[.slice A0 l0.length c0] rfl (by (try simp only [List.map_toArray, List.map_cons, List.map_nil]); first | done | rfl | (simp only [List.length_drop, List.length_take]; rfl)) ?_; (with_reducible refine (runes_Norm.calls k _ _ l0 t292 _ ?side1 ?side2 A2.out).mono ?_); (case side1 => repeat (first | exact HR0.out | (with_reducible refine Kd.C_alloc ?_ _) | (with_reducible refine Kd.C_drewN ?_ _) | (with_reducible refine Kd.C_drew ?_))); (case side2 => exact HC0.out); rintro e w4 ⟨v293, rfl, ho0, hb⟩; refine ⟨_, rfl, ?_⟩; have n0_ := Aside0.mk (Kd.R_lower ho0 (below_size (by repeat (first | (with_reducible first | exact HB.out | apply below_alloc | apply pw_below_drewN | apply below_drew1) | exact HB.out)))); have n1_ := Aside0.mk (below_step (by repeat (first | (with_reducible first | exact HB.out | apply below_alloc | apply pw_below_drewN | apply below_drew1) | exact HB.out)) hb); clear HB; have HO294 := n0_; have HB := n1_; clear n0_ n1_; (try clear hb); (try clear hb2); (try clear hk); (try clear hi); (try clear ho0); obtain ⟨Ao5, co5, eo5⟩ := Kd.R_slice HO294.out; subst eo5) | ((with_reducible refine gate_callee (f := 48) rfl ?_); refine goesL_ (some 6) rfl rfl Tryd.func48 (by kernel_rfl) rfl #[.slice A0 l0.length c0, .slice Ao5 t292.length co5] rfl (by (try simp only [List.map_toArray, List.map_cons, List.map_nil]); first | done | rfl | (simp only [List.length_drop, List.length_take]; rfl)) ?_; (with_reducible refine (api_Range.calls k _ _ l0 _ _ t292 t295 _ ?side1 ?side2 ?side3 ?side4 A3.out).mono ?_); (case side1 => repeat (first | exact (Kd.C_below HR0.out HB.out) | (with_reducible refine Kd.C_alloc ?_ _) | (with_reducible refine Kd.C_drewN ?_ _) | (with_reducible refine Kd.C_drew ?_))); (case side2 => exact HC0.out); (case side3 => repeat (first | exact (Kd.R_reads' HO294.out).2.2 | (with_reducible refine Kd.C_alloc ?_ _) | (with_reducible refine Kd.C_drewN ?_ _) | (with_reducible refine Kd.C_drew ?_))); (case side4 => exact (Kd.R_reads' HO294.out).2.1); rintro e w' ⟨rfl, ⟨nd, rfl⟩⟩; refine ⟨_, rfl, ?_⟩))
  go_ret
  exact ⟨by first | rfl | (simp [errW_none, errW_some] <;> rfl) | (simp [*, errW_none, errW_some] <;> rfl), by repeat (first | (with_reducible first | exact HB.out | apply below_alloc | apply pw_below_drewN | apply below_drew1) | exact HB.out)⟩
end Go.Proofs.YthdfmbmbjpmlaaaDoor.Rn
/- spans as ranges; Norm -/
set_option linter.unusedVariables false
set_option linter.unusedSimpArgs false
namespace Go.Proofs.YthdfmbmbjpmlaaaDoor.Rn
open Go Go.RowKit Go.Proofs.YthdfmbmbjpmlaaaDoorW.PrintWords Go.Proofs.YthdfmbmbjpmlaaaDoorW.PrintLast Go.Proofs.YthdfmbmbjpmlaaaDoorW.PrintMore
/-- spans as ranges -/
def valS (n : Int) : Int := (runes_value.f n).getD 0
theorem val_f (n : Int) : runes_value.f n = some (valS n) := by
  unfold valS runes_value.f
  by_cases h : n < 55296
  · simp only [if_pos h, Option.getD_some]
  · simp only [if_neg h, Option.getD_some]
def rgS (x : Sp) : Rg := ⟨valS x.f0, valS (wrap64 (x.f1 - 1))⟩
theorem ranges_l (L : List Sp) (hL : L.length ≤ 2000000) (d : Nat) : ∀ (k i : Nat), i ≤ L.length → L.length - i = d → d < k → runes_ranges.l0 k ((L.take i).map rgS) L (L.length : Int) (i : Int) = some (L.map rgS) := by
  induction d with
  | zero =>
    intro k i h1 h2 hk
    obtain ⟨k, rfl⟩ : ∃ m, k = m + 1 := ⟨k - 1, by omega⟩
    simp only [runes_ranges.l0]
    rw [if_neg (by omega), List.take_of_length_le (by omega)]
  | succ d ih =>
    intro k i h1 h2 hk
    obtain ⟨k, rfl⟩ : ∃ m, k = m + 1 := ⟨k - 1, by omega⟩
    have hi : i < L.length := by omega
    simp only [runes_ranges.l0]
    rw [if_pos (by omega), if_pos (by omega), if_pos (by omega), val_f]
    simp only [Option.bind_some]
    rw [val_f]
    simp only [Option.bind_some]
    rw [if_pos (by rw [List.length_map, List.length_take]; omega)]
    have e1 : rd_T105 L (i : Int) = L[i] := by
      unfold rd_T105
      rw [Int.toNat_natCast, List.getD_eq_getElem?_getD, List.getElem?_eq_getElem hi]
      rfl
    have e2 : wrap64 ((i : Int) + 1) = ((i + 1 : Nat) : Int) := by unfold wrap64; omega
    rw [e1, e2]
    have e3 : (L.take i).map rgS ++ [(⟨valS L[i].f0, valS (wrap64 (L[i].f1 - 1))⟩ : Rg)] = (L.take (i + 1)).map rgS := by
      rw [List.take_succ_eq_append_getElem hi, List.map_append]
      rfl
    rw [e3]
    exact ih k (i + 1) (by omega) (by omega) (by omega)
theorem ranges_f (L : List Sp) (hL : L.length ≤ 2000000) : runes_ranges.f (L.length + 1) L = some (L.map rgS) := by
  have h := ranges_l L hL L.length (L.length + 1) 0 (by omega) (by omega) (by omega)
  exact h
theorem spansS_len (l : List Rg) : (spansS l).length ≤ l.length := by
  unfold spansS nfS
  have h := mergeS_len (sortS (rawS l)) (sortS (rawS l)).length
  rw [List.take_length] at h
  have h2 : ∀ m : List Sp, (sortS m).length = m.length := fun m => by
    induction m with
    | nil => rfl
    | cons x m ih =>
      have h3 : ∀ (y : Sp) (q : List Sp), (insS y q).length = q.length + 1 := fun y q => by
        induction q with
        | nil => rfl
        | cons z q ih2 =>
          unfold insS
          split
          · rfl
          · simp [ih2]
      rw [sortS, h3, ih, List.length_cons]
  rw [h2] at h
  have := rawS_len l
  omega
/-- a row of spans that is read, by plain addresses -/
theorem sp_cells {w : World} {A : Option Addr} {xs : List Sp} (h : k105.C w A xs.length xs) (hn : 0 < xs.length) :
    ∃ g o, A = some ⟨g, o, none⟩ ∧ g < w.heap.size ∧ ∀ j x, xs[j]? = some x → w.cell? ⟨g, o + j * 2, none⟩ = some (.int .i64 x.f0) ∧ w.cell? ⟨g, o + j * 2 + 1, none⟩ = some (.int .i64 x.f1) := by
  obtain ⟨ad, rfl, hc⟩ := h.2.2 hn
  obtain ⟨g, o, sp⟩ := ad
  have h0 : ∃ v, w.cell? ⟨g, o, sp⟩ = some v := by
    obtain ⟨c, hl, hR, hcc⟩ := hc 0 xs[0] (by simp)
    have hR' := k105_open hR
    subst hR'
    have h1 := hcc 0 _ rfl
    exact ⟨_, by simpa [Addr.add, Nat.zero_mul] using h1⟩
  obtain ⟨v, hv⟩ := h0
  obtain rfl := cell_spot hv
  refine ⟨g, o, rfl, World.block_lt_of_cell? w _ hv, fun j x hx => ?_⟩
  obtain ⟨c, hl, hR, hcc⟩ := hc j x hx
  have hR' := k105_open hR
  subst hR'
  have hk : ∀ i u, ([.int .i64 x.f0, .int .i64 x.f1] : List Value)[i]? = some u → w.cell? ⟨g, o + j * 2 + i, none⟩ = some u := fun i u hu => by
    have := hcc i u hu
    rw [add_at] at this
    rw [Nat.add_assoc]
    exact this
  exact ⟨hk 0 _ rfl, hk 1 _ rfl⟩
abbrev kRg := k56
abbrev tRg : Nat := 56
/-- the ranges of one list, normal -/
def normS (l : List Rg) : List Rg := (spansS l).map rgS
theorem norm_f (l : List Rg) (h : okR l = true) : runes_Norm.f (l.length + 1) l = some (normS l) := by
  have h1 : runes_spans.f l = some (spansS l) := by unfold runes_spans.f; rw [if_pos h]
  have hl : (spansS l).length ≤ l.length := spansS_len l
  have hl2 : l.length ≤ 1000000 := by
    unfold okR at h
    simp only [Bool.and_eq_true, decide_eq_true_eq] at h
    exact h.1
  have h2 : runes_ranges.f (l.length + 1) (spansS l) = some ((spansS l).map rgS) := ranges_l (spansS l) (by omega) (spansS l).length (l.length + 1) 0 (by omega) (by omega) (by omega)
  unfold runes_Norm.f
  rw [h1, Option.bind_some, h2]
  rfl
end Go.Proofs.YthdfmbmbjpmlaaaDoor.Rn
/- lists that are the same; May -/
set_option linter.unusedVariables false
set_option linter.unusedSimpArgs false
namespace Go.Proofs.YthdfmbmbjpmlaaaDoor.Rn
open Go Go.RowKit Go.Proofs.YthdfmbmbjpmlaaaDoorW.PrintWords Go.Proofs.YthdfmbmbjpmlaaaDoorW.PrintLast Go.Proofs.YthdfmbmbjpmlaaaDoorW.PrintMore
theorem rg_ext {x y : Rg} (h0 : x.f0 = y.f0) (h1 : x.f1 = y.f1) : x = y := by
  cases x
  cases y
  simp_all
def eqS : List Rg → List Rg → Bool
  | [], [] => true
  | x :: l, y :: m => (x.f0 == y.f0) && (x.f1 == y.f1) && eqS l m
  | _, _ => false
theorem eqS_iff : ∀ l m : List Rg, eqS l m = true ↔ l = m
  | [], [] => by simp [eqS]
  | [], _ :: _ => by simp [eqS]
  | _ :: _, [] => by simp [eqS]
  | x :: l, y :: m => by
    simp only [eqS, Bool.and_eq_true, beq_iff_eq, eqS_iff l m, List.cons.injEq]
    constructor
    · rintro ⟨⟨h0, h1⟩, h2⟩
      exact ⟨rg_ext h0 h1, h2⟩
    · rintro ⟨rfl, h2⟩
      exact ⟨⟨rfl, rfl⟩, h2⟩
theorem rd_rg (l : List Rg) (i : Nat) (hi : i < l.length) : rd_T56 l (i : Int) = l[i] := by
  unfold rd_T56
  rw [Int.toNat_natCast, List.getD_eq_getElem?_getD, List.getElem?_eq_getElem hi]
  rfl
theorem rd_sp (l : List Sp) (i : Nat) (hi : i < l.length) : rd_T105 l (i : Int) = l[i] := by
  unfold rd_T105
  rw [Int.toNat_natCast, List.getD_eq_getElem?_getD, List.getElem?_eq_getElem hi]
  rfl
theorem same_l (l m : List Rg) (hlm : l.length = m.length) (hl : l.length ≤ 1000000) (d : Nat) : ∀ (k i : Nat), i ≤ l.length → l.length - i = d → d < k → api_Range.l0 k l m (l.length : Int) (i : Int) = some (eqS (l.drop i) (m.drop i)) := by
  induction d with
  | zero =>
    intro k i h1 h2 hk
    obtain ⟨k, rfl⟩ : ∃ m, k = m + 1 := ⟨k - 1, by omega⟩
    simp only [api_Range.l0]
    rw [if_neg (by omega), List.drop_of_length_le (by omega), List.drop_of_length_le (by omega)]
    rfl
  | succ d ih =>
    intro k i h1 h2 hk
    obtain ⟨k, rfl⟩ : ∃ m, k = m + 1 := ⟨k - 1, by omega⟩
    have hi : i < l.length := by omega
    have hj : i < m.length := by omega
    simp only [api_Range.l0]
    have e2 : wrap64 ((i : Int) + 1) = ((i + 1 : Nat) : Int) := by unfold wrap64; omega
    have hi2 := ih k (i + 1) (by omega) (by omega) (by omega)
    rw [if_pos (by omega), if_pos (by omega), if_pos (by omega), if_pos (by omega), rd_rg l i hi, rd_rg m i hj, List.drop_eq_getElem_cons hi, List.drop_eq_getElem_cons hj, e2, hi2]
    obtain ⟨x, hx⟩ : ∃ x, l[i] = x := ⟨_, rfl⟩
    obtain ⟨y, hy⟩ : ∃ y, m[i] = y := ⟨_, rfl⟩
    rw [hx, hy]
    clear hx hy hi2 ih e2 h1 h2 hk hi hj
    simp only [eqS]
    by_cases h0 : x.f0 = y.f0
    · by_cases h3 : x.f1 = y.f1
      · rw [if_neg (by simp [h0, h3])]
        simp [h0, h3]
      · rw [if_pos (by simp [h0, h3])]
        simp [h0, h3]
    · rw [if_pos (by simp [h0])]
      simp [h0]
theorem eqS_len : ∀ l m : List Rg, l.length ≠ m.length → eqS l m = false := fun l m h => by
  cases e : eqS l m
  · rfl
  · exact absurd (congrArg List.length ((eqS_iff l m).1 e)) h
theorem equal_f (l m : List Rg) (hl : l.length ≤ 1000000) (k : Nat) (hk : l.length < k) : api_Range.f k l m = some (eqS l m) := by
  unfold api_Range.f
  by_cases h : l.length = m.length
  · rw [if_pos (by omega)]
    exact same_l l m h hl l.length k 0 (by omega) (by omega) hk
  · rw [if_neg (by omega), eqS_len l m h]
theorem okR_len {l : List Rg} (h : okR l = true) : l.length ≤ 1000000 := by
  unfold okR at h
  simp only [Bool.and_eq_true, decide_eq_true_eq] at h
  exact h.1
theorem norm_fk (l : List Rg) (h : okR l = true) (k : Nat) (hk : l.length < k) : runes_Norm.f k l = some (normS l) := at_rounds (fun k => runes_Norm.mono l k) (Nat.succ_le_of_lt hk) (norm_f l h)
theorem may_f (l : List Rg) (h : okR l = true) (k : Nat) (hk : l.length < k) : runes_May.f k l = some (eqS l (normS l)) := by
  unfold runes_May.f
  rw [norm_fk l h k hk, Option.bind_some, equal_f l _ (okR_len h) k hk]
  rfl
end Go.Proofs.YthdfmbmbjpmlaaaDoor.Rn
