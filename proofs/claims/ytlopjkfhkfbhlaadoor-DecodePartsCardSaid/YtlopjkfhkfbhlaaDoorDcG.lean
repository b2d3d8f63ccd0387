import Derived.Test.YtlopjkfhkfbhlaaDoorDcF
import Derived.Deep.QuietTactic
import Derived.BigQuiet
set_option linter.unusedVariables false
set_option linter.unusedSimpArgs false
namespace Go.Proofs.YtlopjkfhkfbhlaaDoor.Dec
open Go Go.RowKit Go.Proofs.YtlopjkfhkfbhlaaDoorW.PrintWords Go.Proofs.YtlopjkfhkfbhlaaDoorW.PrintLast Go.Proofs.YtlopjkfhkfbhlaaDoorW.PrintMore
theorem makeFunc_run (fn : Fn) (first cap : Array Value) (w : World) : (Instr.makeFunc fn first cap).run Tryd.prog w = .ok (.func fn first cap) w := rfl
theorem IsDec.below {w W : World} {B g : Nat} {held : List Int} {at_ : Int} {cl : Bool} {v3 : Value} {out : List Item} (h : IsDec w B g held at_ cl v3 out) (hb : Below w.heap.size w W) : IsDec W B g held at_ cl v3 out := by
  obtain ⟨⟨A, c, h0, h1⟩, h2, h3, h4⟩ := h
  exact ⟨⟨A, c, (hb.block g (blk_lt h0)).trans h0, Kd.R_below h1 hb⟩, h2, Nat.le_trans h3 hb.size, Kd.R_below h4 hb⟩
theorem Tabs_belowB {w W : World} {B : Nat} (h : Tabs w) (hb : Below B w W) (h1 : 0 < B) (h2 : 1 < B) : Tabs W :=
  ⟨fun c hc => (hb.cell (p := ⟨_, _, none⟩) h1).trans (h.1 c hc), fun i hi => ⟨(hb.cell (p := ⟨_, _, none⟩) h2).trans (h.2 i hi).1, (hb.cell (p := ⟨_, _, none⟩) h2).trans (h.2 i hi).2⟩⟩
set_option maxHeartbeats 1000000 in
set_option maxRecDepth 100000 in
theorem more_bad (B g : Nat) (v3 : Value) (held : List Int) (at_ : Int) (cl : Bool) (out : List Item) (k : Int) (w : World)
    (hD : IsDec w B g held at_ cl v3 out) (hk : growOk held k = false) :
    Calls Tryd.prog 28 #[.pointer (some ⟨g, 0, none⟩), .int .u8 k] w fun e w' => e = .returned (.bool false) ∧ Below w.heap.size w w' := by
  have hmf := makeFunc_run
  obtain ⟨⟨A, c, hb, hR0⟩, hge, hle, hR3⟩ := hD
  have d0 : ∀ o, (w.alloc o).cell? ⟨g, 0, none⟩ = some (.slice A held.length c) := fun o => (blk_cell (blk_alloc hb o) 0).trans rfl
  have HB := Aside0.mk hb
  have HR0 := Aside0.mk hR0
  have HK := Aside0.mk hk
  clear hb hR0 hR3 hk
  go_enter_defers Tryd.func28, Tryd.ntmps28
  go_wp2_with (go_at_call 32; refine (grow_bad A held c k 0 _ ?cC ?cL HK.out).mono ?_; (case cC => exact Kd.C_below (Kd.R_reads' HR0.out).2.2 (below_alloc (Below.refl _ _) _)); (case cL => exact (Kd.R_reads' HR0.out).2.1); rintro e w1 ⟨rfl, hb⟩)
  have hbx := (hb.block _ (by simp)).trans (blk_new w _)
  refine leaves_cons (f := 31) (args := #[.pointer (some ⟨w.heap.size, 0, none⟩)]) (by simp) (by simp [go_sem]) ?_
  refine (catch_panicking w.heap.size false [] _ hbx).mono ?_
  rintro e u' w'' ⟨rfl, rfl, rfl⟩
  have hbb := blk_alloc hbx (.cells #[] 63)
  have hcc : ((w1.alloc (.cells #[] 63)).setCell ⟨w.heap.size, 0, none⟩ (.bool false)).cell? ⟨w.heap.size, 0, none⟩ = some (.bool false) := (blk_cell (blk_put hbb 0 (.bool false) rfl) 0).trans rfl
  have hfin : Below w.heap.size w ((w1.alloc (.cells #[] 63)).setCell ⟨w.heap.size, 0, none⟩ (.bool false)) :=
    ((below_then (below_alloc (Below.refl _ _) _) (by simp) hb).alloc (by have := hb.size; simp at this; omega) _).setCell (Nat.le_refl _) _
  simp [Leaves, settle, results, Tryd.results28, go_sem, hcc, hfin]
theorem grow_ok' (A : Option Addr) (xs : List Int) (n : Nat) (k : Int) (w : World) (hr : Kd.C (Kd.int .u8) w A xs.length xs) (hc : xs.length ≤ n) (hl : xs.length ≤ 1000) (hk : growOk xs k = true) :
    Calls Tryd.prog 32 #[.slice A xs.length n, .int .u8 k] w fun e w' => ∃ A1 c1, e = .returned (.slice A1 (xs.length + 1) c1) ∧ Kd.R (Kd.int .u8) 5 w' w.heap.size (fun _ => True) (.slice A1 (xs.length + 1) c1) (xs ++ [k]) ∧ Below w.heap.size w w' := by
  refine (grow_ok A xs n k w hr hc hl hk).mono ?_
  rintro e w' ⟨v, rfl, hR, hb⟩
  obtain ⟨A1, c1, rfl⟩ := Kd.R_slice hR
  rw [List.length_append, List.length_singleton] at *
  exact ⟨A1, c1, rfl, hR, hb⟩
/-- the decoder's block, the length of what is held written out -/
theorem IsDec.of {W : World} {B g : Nat} {held : List Int} {at_ : Int} {cl : Bool} {v3 : Value} {out : List Item} {A : Option Addr} {c : Nat}
    (h : W.heap[g]? = some (.cells #[.slice A held.length c, .int .i64 at_, .bool cl, v3] 51 (0, 0))) (hR : (Kd.int .u8).R 5 W B (fun _ => True) (.slice A held.length c) held) (hge : B ≤ g) (hle : B ≤ W.heap.size)
    (hO : kItem.R 36 W B (fun _ => True) v3 out) : IsDec W B g held at_ cl v3 out := ⟨⟨A, c, h, hR⟩, hge, hle, hO⟩
set_option maxHeartbeats 1000000 in
set_option maxRecDepth 100000 in
theorem more_ok (B g : Nat) (v3 : Value) (held : List Int) (at_ : Int) (cl : Bool) (out : List Item) (k : Int) (w : World)
    (hD : IsDec w B g held at_ cl v3 out) (hn : held.length ≤ 900) (hk : growOk held k = true) (h0 : (((held ++ [k]).length : Int) == longF ((held ++ [k]).headD 0)) = false) :
    Calls Tryd.prog 28 #[.pointer (some ⟨g, 0, none⟩), .int .u8 k] w fun e w' => e = .returned (.bool true) ∧ IsDec w' B g (held ++ [k]) at_ cl v3 out ∧ Below B w w' ∧ Kept w w' (fun j => j = g) := by
  have hmf := makeFunc_run
  obtain ⟨⟨A, c, hb, hR0⟩, hge, hle, hR3⟩ := hD
  have d0 : ∀ o, (w.alloc o).cell? ⟨g, 0, none⟩ = some (.slice A held.length c) := fun o => (blk_cell (blk_alloc hb o) 0).trans rfl
  have HB := Aside0.mk hb
  have HR0 := Aside0.mk hR0
  have HR3 := Aside0.mk hR3
  have HK := Aside0.mk hk
  have H0 := Aside0.mk h0
  clear hb hR0 hR3 hk h0
  go_enter_defers Tryd.func28, Tryd.ntmps28
  go_wp2_with (go_at_call 32; refine (grow_ok' A held c k _ ?cC ?cL ?cM HK.out).mono ?_; (case cC => exact Kd.C_below (Kd.R_reads' HR0.out).2.2 (below_alloc (Below.refl _ _) _)); (case cL => exact (Kd.R_reads' HR0.out).2.1); (case cM => exact Nat.le_trans hn (by decide)); rintro e w1 ⟨A1, c1, rfl, hR1, hb⟩; have HG := Aside0.mk ((hb.block g (by simp; exact Nat.lt_succ_of_lt (blk_lt HB.out))).trans (blk_alloc HB.out _)); have ce0 : w1.cell? ⟨g, 0, none⟩ = some (.slice A held.length c) := (blk_cell HG.out 0).trans rfl; have fr0 := blk_frozen HG.out 0)
  obtain ⟨g1, o1, rfl, hg1, hcell⟩ := int_cells (Kd.R_reads' hR1).2.2 (by simp)
  obtain ⟨x0, hx0⟩ : ∃ x, (held ++ [k]).headD 0 = x := ⟨_, rfl⟩
  have hx0' : (held ++ [k])[0]? = some x0 := by rw [← hx0]; cases held <;> rfl
  have hne : g1 ≠ g := by
    obtain ⟨inner, hown⟩ := Kd.R_own hR1
    have := own_base hown g1 rfl
    have := blk_lt HB.out
    simp at *
    omega
  have cg : (w1.setCell ⟨g, 0, none⟩ (.slice (some ⟨g1, o1, none⟩) (held.length + 1) c1)).cell? ⟨g, 0, none⟩ = some (.slice (some ⟨g1, o1, none⟩) (held.length + 1) c1) := (blk_cell (blk_put HG.out 0 _ rfl) 0).trans rfl
  have cx : (w1.setCell ⟨g, 0, none⟩ (.slice (some ⟨g1, o1, none⟩) (held.length + 1) c1)).cell? ⟨g1, o1, none⟩ = some (.int .u8 x0) := by
    rw [cell_far hne]
    exact hcell 0 x0 hx0'
  rw [hx0] at H0
  have HX0 := Aside0.mk hx0
  have HC := Aside0.mk hcell
  have HR1 := Aside0.mk hR1
  have HBB := Aside0.mk hb
  have hpos : (0 : Int) < (held.length : Int) + 1 := by omega
  have h0 : ((held.length : Int) + 1 == longF x0) = false := by simpa using H0.out
  clear hx0 hx0' hcell hR1 hb d0 ce0 fr0
  go_quiet ((go_at_call 33; exact Calls.quiet_of_same (long_same _ _)))
  have hgs : g < w.heap.size := blk_lt HB.out
  have hbx : w1.heap[w.heap.size]? = some (.cells #[.bool false] 4 (0, 0)) := (HBB.out.block _ (by simp)).trans (blk_new w _)
  have hbx' := blk_drewN (blk_far (p := ⟨g, 0, none⟩) hbx (by simp; omega) (.slice (some ⟨g1, o1, none⟩) (held.length + 1) c1)) nq
  have HBX := Aside0.mk hbx'
  have cb := (blk_cell hbx' 0).trans rfl
  have fb := blk_frozen hbx' 0
  clear hbx hbx' cg cx
  go_wp2
  have hres := (blk_cell (blk_put HBX.out 0 (.bool true) rfl) 0).trans rfl
  refine leaves_cons (f := 31) (args := #[.pointer (some ⟨w.heap.size, 0, none⟩)]) (by simp) (by simp [go_sem]) ?_
  refine (catch_idle ⟨w.heap.size, 0, none⟩ _).mono ?_
  rintro e u' w'' ⟨rfl, rfl, rfl⟩
  have hB1 : Below B w w1 := (below_alloc (Below.refl _ _) _ |>.mono hle).trans (HBB.out.mono (by simp; omega))
  have hsz := hB1.size
  have hg2 := blk_far (p := ⟨w.heap.size, 0, none⟩) (blk_drewN (blk_put HG.out 0 (.slice (some ⟨g1, o1, none⟩) (held.length + 1) c1) rfl) nq) (by simp; omega) (.bool true)
  have hK : Kept w w1 (fun j => j = g) := (Kept.of_below (below_then (below_alloc (Below.refl _ _) _) (by simp) HBB.out) _)
  have hR0' := Kd.R_set (Kd.R_drewN (Kd.R_set (Kd.R_lower HR1.out (by simp; omega : B ≤ _)) HG.out (by decide) 0 (.slice (some ⟨g1, o1, none⟩) (held.length + 1) c1)) nq) HBX.out (by decide) 0 (.bool true)
  have hR3' := Kd.R_set (Kd.R_drewN (Kd.R_set (Kd.R_below HR3.out (below_then (below_alloc (Below.refl _ _) _) (by simp) HBB.out)) HG.out (by decide) 0 (.slice (some ⟨g1, o1, none⟩) (held.length + 1) c1)) nq) HBX.out (by decide) 0 (.bool true)
  have hE : (held ++ [k]).length = held.length + 1 := by simp
  have hfin : IsDec _ B g (held ++ [k]) at_ cl v3 out ∧ Below B w _ ∧ Kept w _ (fun j => j = g) :=
    ⟨IsDec.of (c := c1) (by rw [hE]; exact hg2) (by rw [hE]; exact hR0') hge (by simpa [World.setCell] using Nat.le_trans hle hsz) hR3',
      (pw_below_drewN (hB1.setCell (show B ≤ (⟨g, 0, none⟩ : Addr).block from hge) (.slice (some ⟨g1, o1, none⟩) (held.length + 1) c1)) nq).setCell (show B ≤ (⟨w.heap.size, 0, none⟩ : Addr).block from hle) (.bool true),
      ((hK.setCell (p := ⟨g, 0, none⟩) (.inl rfl) (.slice (some ⟨g1, o1, none⟩) (held.length + 1) c1)).drewN nq).setCell (p := ⟨w.heap.size, 0, none⟩) (.inr (Nat.le_refl _)) (.bool true)⟩
  simp [Leaves, settle, results, Tryd.results28, go_sem, hres]
  exact hfin
set_option maxHeartbeats 1000000 in
set_option maxRecDepth 100000 in
theorem more_whole (B g : Nat) (v3 : Value) (held : List Int) (at_ : Int) (cl : Bool) (out : List Item) (k : Int) (w : World)
    (hD : IsDec w B g held at_ cl v3 out) (hn : held.length ≤ 900) (hk : growOk held k = true) (h0 : (((held ++ [k]).length : Int) == longF ((held ++ [k]).headD 0)) = true) (hW : Whole (held ++ [k])) (hT : Tabs w) (hB1' : 0 < B) (hB2' : 1 < B) (ha : 0 ≤ at_) (ha' : at_ ≤ 4611686018427387904) (ho : out.length ≤ 1000000000) :
    Calls Tryd.prog 28 #[.pointer (some ⟨g, 0, none⟩), .int .u8 k] w fun e w' => e = .returned (.bool true) ∧ ∃ v3', IsDec w' B g [] (at_ + (held.length + 1)) cl v3' (out ++ [⟨runeOf (held ++ [k]), at_, at_ + (held.length + 1), false, false⟩]) ∧ (v3'.ownBlock = v3.ownBlock ∨ ∃ b, v3'.ownBlock = some b ∧ w.heap.size ≤ b) ∧ Below B w w' ∧ Kept w w' (MayDec g v3) := by
  have hmf := makeFunc_run
  obtain ⟨⟨A, c, hb, hR0⟩, hge, hle, hR3⟩ := hD
  have d0 : ∀ o, (w.alloc o).cell? ⟨g, 0, none⟩ = some (.slice A held.length c) := fun o => (blk_cell (blk_alloc hb o) 0).trans rfl
  have HB := Aside0.mk hb
  have HR0 := Aside0.mk hR0
  have HR3 := Aside0.mk hR3
  have HK := Aside0.mk hk
  have H0 := Aside0.mk h0
  have HW := Aside0.mk hW
  have HT := Aside0.mk hT
  clear hb hR0 hR3 hk h0 hW hT
  go_enter_defers Tryd.func28, Tryd.ntmps28
  go_wp2_with (go_at_call 32; refine (grow_ok' A held c k _ ?cC ?cL ?cM HK.out).mono ?_; (case cC => exact Kd.C_below (Kd.R_reads' HR0.out).2.2 (below_alloc (Below.refl _ _) _)); (case cL => exact (Kd.R_reads' HR0.out).2.1); (case cM => exact Nat.le_trans hn (by decide)); rintro e w1 ⟨A1, c1, rfl, hR1, hb⟩; have HG := Aside0.mk ((hb.block g (by simp; exact Nat.lt_succ_of_lt (blk_lt HB.out))).trans (blk_alloc HB.out _)); have ce0 : w1.cell? ⟨g, 0, none⟩ = some (.slice A held.length c) := (blk_cell HG.out 0).trans rfl; have fr0 := blk_frozen HG.out 0)
  obtain ⟨g1, o1, rfl, hg1, hcell⟩ := int_cells (Kd.R_reads' hR1).2.2 (by simp)
  obtain ⟨x0, hx0⟩ : ∃ x, (held ++ [k]).headD 0 = x := ⟨_, rfl⟩
  have hx0' : (held ++ [k])[0]? = some x0 := by rw [← hx0]; cases held <;> rfl
  have hne : g1 ≠ g := by
    obtain ⟨inner, hown⟩ := Kd.R_own hR1
    have := own_base hown g1 rfl
    have := blk_lt HB.out
    simp at *
    omega
  have cg : (w1.setCell ⟨g, 0, none⟩ (.slice (some ⟨g1, o1, none⟩) (held.length + 1) c1)).cell? ⟨g, 0, none⟩ = some (.slice (some ⟨g1, o1, none⟩) (held.length + 1) c1) := (blk_cell (blk_put HG.out 0 _ rfl) 0).trans rfl
  have cx : (w1.setCell ⟨g, 0, none⟩ (.slice (some ⟨g1, o1, none⟩) (held.length + 1) c1)).cell? ⟨g1, o1, none⟩ = some (.int .u8 x0) := by
    rw [cell_far hne]
    exact hcell 0 x0 hx0'
  rw [hx0] at H0
  have HX0 := Aside0.mk hx0
  have HC := Aside0.mk hcell
  have HR1 := Aside0.mk hR1
  have HBB := Aside0.mk hb
  have hpos : (0 : Int) < (held.length : Int) + 1 := by omega
  have h0 : ((held.length : Int) + 1 == longF x0) = true := by simpa using H0.out
  clear hx0 hx0' hcell hR1 hb d0 ce0 fr0
  go_quiet ((go_at_call 33; exact Calls.quiet_of_same (long_same _ _)))
  have hgs : g < w.heap.size := blk_lt HB.out
  have hbx : w1.heap[w.heap.size]? = some (.cells #[.bool false] 4 (0, 0)) := (HBB.out.block _ (by simp)).trans (blk_new w _)
  have hbx' := blk_drewN (blk_far (p := ⟨g, 0, none⟩) hbx (by simp; omega) (.slice (some ⟨g1, o1, none⟩) (held.length + 1) c1)) nq
  have HBX := Aside0.mk hbx'
  have cb := (blk_cell hbx' 0).trans rfl
  have fb := blk_frozen hbx' 0
  have hB1 : Below B w w1 := (below_alloc (Below.refl _ _) _ |>.mono hle).trans (HBB.out.mono (by simp; omega))
  have hsz := hB1.size
  have hK : Kept w w1 (fun j => j = g) := (Kept.of_below (below_then (below_alloc (Below.refl _ _) _) (by simp) HBB.out) _)
  have hE : (held ++ [k]).length = held.length + 1 := by simp
  have hR0' := Kd.R_drewN (Kd.R_set (Kd.R_lower HR1.out (by simp; omega : B ≤ _)) HG.out (by decide) 0 (.slice (some ⟨g1, o1, none⟩) (held.length + 1) c1)) nq
  have hR3' := Kd.R_drewN (Kd.R_set (Kd.R_below HR3.out (below_then (below_alloc (Below.refl _ _) _) (by simp) HBB.out)) HG.out (by decide) 0 (.slice (some ⟨g1, o1, none⟩) (held.length + 1) c1)) nq
  have HD : Aside0 (IsDec ((w1.setCell ⟨g, 0, none⟩ (.slice (some ⟨g1, o1, none⟩) (held.length + 1) c1)).drewN nq) B g (held ++ [k]) at_ cl v3 out) :=
    ⟨IsDec.of (c := c1) (by rw [hE]; exact blk_drewN (blk_put HG.out 0 (.slice (some ⟨g1, o1, none⟩) (held.length + 1) c1) rfl) nq) (by rw [hE]; exact hR0') hge (by simpa [World.setCell] using Nat.le_trans hle hsz) hR3'⟩
  have HBd : Aside0 (Below B w ((w1.setCell ⟨g, 0, none⟩ (.slice (some ⟨g1, o1, none⟩) (held.length + 1) c1)).drewN nq)) := ⟨pw_below_drewN (hB1.setCell (show B ≤ (⟨g, 0, none⟩ : Addr).block from hge) (.slice (some ⟨g1, o1, none⟩) (held.length + 1) c1)) nq⟩
  have HT1 : Aside0 (Tabs ((w1.setCell ⟨g, 0, none⟩ (.slice (some ⟨g1, o1, none⟩) (held.length + 1) c1)).drewN nq)) := ⟨Tabs_belowB HT.out HBd.out hB1' hB2'⟩
  have HKd : Aside0 (Kept w ((w1.setCell ⟨g, 0, none⟩ (.slice (some ⟨g1, o1, none⟩) (held.length + 1) c1)).drewN nq) (fun j => j = g)) := ⟨(hK.setCell (p := ⟨g, 0, none⟩) (.inl rfl) _).drewN nq⟩
  have hvb : some w.heap.size ≠ v3.ownBlock := fun e => by have := Kd.R_lt HR3.out _ e.symm; omega
  clear hbx hbx' cg cx hR0' hR3' hK hE hB1 cb fb
  go_wp2_with (go_at_call 25; refine (tell_any B g v3 (held ++ [k]) at_ cl false false out (runeOf (held ++ [k])) _ HD.out ?hn ha ha' ho (.inr ⟨rfl, HW.out, HT1.out, rfl⟩)).mono ?_; (case hn => simp; omega); rintro e w2 ⟨rfl, v3', hD2, hA2, hB2, hK2⟩; have HBX2 := Aside0.mk (blk_kept HBX.out hK2 (fun h => h.elim (fun h => by omega) (fun h => hvb h))); have cb : w2.cell? ⟨w.heap.size, 0, none⟩ = some (.bool false) := (blk_cell HBX2.out 0).trans rfl; have fb := blk_frozen HBX2.out 0)
  have hres := (blk_cell (blk_put HBX2.out 0 (.bool true) rfl) 0).trans rfl
  refine leaves_cons (f := 31) (args := #[.pointer (some ⟨w.heap.size, 0, none⟩)]) (by simp) (by simp [go_sem]) ?_
  refine (catch_idle ⟨w.heap.size, 0, none⟩ _).mono ?_
  rintro e u' w'' ⟨rfl, rfl, rfl⟩
  obtain ⟨⟨A9, c9, g9, r9⟩, _, l9, o9⟩ := hD2
  have hE : (held ++ [k]).length = held.length + 1 := by simp
  have hN : ((held ++ [k]).length : Int) = (held.length : Int) + 1 := by simp
  rw [hN] at g9 o9
  have hfin : ∃ v3', IsDec _ B g [] (at_ + (held.length + 1)) cl v3' (out ++ [⟨runeOf (held ++ [k]), at_, at_ + (held.length + 1), false, false⟩]) ∧ (v3'.ownBlock = v3.ownBlock ∨ ∃ b, v3'.ownBlock = some b ∧ w.heap.size ≤ b) ∧ Below B w _ ∧ Kept w _ (MayDec g v3) :=
    ⟨v3', IsDec.of (A := A9) (c := c9) (blk_far (p := ⟨w.heap.size, 0, none⟩) g9 (by simp; omega) (.bool true)) (Kd.R_set r9 HBX2.out (by decide) 0 (.bool true)) hge (by simpa [World.setCell] using l9) (Kd.R_set o9 HBX2.out (by decide) 0 (.bool true)),
      hA2.imp id (fun ⟨b, h1, h2⟩ => ⟨b, h1, Nat.le_trans HBd.out.size h2⟩), (HBd.out.trans hB2).setCell (show B ≤ (⟨w.heap.size, 0, none⟩ : Addr).block from hle) (.bool true),
      ((HKd.out.mono (fun j hj => .inl hj)).then_ hK2 (fun j hj => .inl hj)).setCell (p := ⟨w.heap.size, 0, none⟩) (.inr (Nat.le_refl _)) (.bool true)⟩
  simp [Leaves, settle, results, Tryd.results28, go_sem, hres]
  exact hfin
end Go.Proofs.YtlopjkfhkfbhlaaDoor.Dec
