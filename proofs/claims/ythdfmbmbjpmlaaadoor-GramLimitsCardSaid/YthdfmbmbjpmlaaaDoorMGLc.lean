/- texts of this claim, one behind the other: GrM, GpB, GrT, GrE, GrJ, GrL, GsA, GsB, GsC, GsD, GsE, GrOa -/
import Derived.Test.YthdfmbmbjpmlaaaDoorMGLa
import Derived.Test.YthdfmbmbjpmlaaaDoorMGLb
import Derived.Tactics
import Derived.Tactics2
import Derived.Defers
import Derived.Recover
import Derived.Deep.QuietTactic
import Derived.BigQuiet
/- regex.may: each node as its kind is. -/
set_option linter.unusedVariables false
set_option linter.unusedSimpArgs false
namespace Go.Proofs.YthdfmbmbjpmlaaaDoor.Rn
open Go Go.RowKit Go.Proofs.YthdfmbmbjpmlaaaDoorW.PrintWords Go.Proofs.YthdfmbmbjpmlaaaDoorW.PrintLast Go.Proofs.YthdfmbmbjpmlaaaDoorW.PrintMore
set_option maxHeartbeats 1000000 in
set_option maxRecDepth 100000 in
theorem may_index (xs : List S48) (A : Option Addr) (c : Nat)  (I J : Nat → World → Prop) (w0 w : World) (hC : k48.C w0 A xs.length xs) (hB : ∀ i W, I i W → Below w0.heap.size w0 W)
    (hstep : ∀ i x cs W, xs[i]? = some x → I i W → k48.K w0 x cs → Calls Tryd.prog 61 #[.agg cs.toArray] W (CbPost (J i) (I (i + 1)))) (h0 : I 0 w) :
    Calls Tryd.prog 66 #[.slice A xs.length c, .func (.func 61) #[] #[]] w (IdxPost xs.length I J) := by
  have hl : xs.length ≤ 9223372036854775807 := hC.2.1
  have HC := Aside0.mk hC
  have HB := Aside0.mk hB
  have HS := Aside0.mk hstep
  have H0 := Aside0.mk h0
  clear hC hB hstep h0
  go_enter Tryd.func66, Tryd.ntmps66
  go_wp2
  go_loopw [8] (fun i W => ∃ k : Nat, i = .int .i64 k ∧ k ≤ xs.length ∧ Aside0 (I k W)) (fun i _ => xs.length - (intOf i).toNat)
  case atStart => exact ⟨0, rfl, Nat.zero_le _, H0⟩
  case round =>
    obtain ⟨k, rfl, hkl, HI⟩ := hrel
    by_cases hlt : k < xs.length
    · obtain ⟨g, o, rfl, _, hcell⟩ := row_cells HC.out (by omega) (by decide)
      obtain ⟨x, hx⟩ : ∃ x, xs[k]? = some x := ⟨_, List.getElem?_eq_getElem hlt⟩
      obtain ⟨cs, hcl, hK, hcc⟩ := hcell k x hx
      have HK := Aside0.mk hK
      obtain ⟨A1, c1, A2, c2, rfl, l1, g1, l2, g2⟩ := k48_open hK
      have y0 := cell_after (HB.out k _ HI.out) (hcc 0 (.int .i64 x.f0) rfl)
      rw [Nat.add_zero] at y0
      have y1 := cell_after (HB.out k _ HI.out) (hcc 1 (.slice A1 x.f1.length c1) rfl)
      have y2 := cell_after (HB.out k _ HI.out) (hcc 2 (.slice A2 x.f2.length c2) rfl)
      simp only [show k48.sz = 3 from rfl] at y0 y1 y2
      have HX := Aside0.mk hx
      clear hcell hcc hx hK hcl
      go_wp2_with fail
      refine (HS.out k x _ _ HX.out HI.out HK.out).mono ?_
      rintro e w2 hp
      rcases hp with ⟨rfl, hj⟩ | ⟨rfl, hi⟩
      · have HJ := Aside0.mk hj
        clear hj
        go_wp2
        go_ret
        exact Or.inl ⟨k, hlt, rfl, HJ.out⟩
      · have HI2 := Aside0.mk hi
        clear hi
        go_wp2
        go_roundw
        case rel => exact ⟨k + 1, by go_num, by omega, HI2⟩
        case measure => simp [intOf]; omega
    · obtain ⟨n, hn⟩ : ∃ n, xs.length = n := ⟨_, rfl⟩
      have e : k = xs.length := by omega
      have HI2 : Aside0 (I xs.length _) := ⟨e ▸ HI.out⟩
      clear e hn n
      go_wp2
      go_ret
      exact Or.inr ⟨rfl, HI2.out⟩
set_option maxHeartbeats 1000000 in
theorem may_contains (xs : List S48) (A : Option Addr) (c : Nat)  (I J : Nat → World → Prop) (w0 w : World) (hC : k48.C w0 A xs.length xs) (hB : ∀ i W, I i W → Below w0.heap.size w0 W)
    (hstep : ∀ i x cs W, xs[i]? = some x → I i W → k48.K w0 x cs → Calls Tryd.prog 61 #[.agg cs.toArray] W (CbPost (J i) (I (i + 1)))) (h0 : I 0 w) :
    Calls Tryd.prog 58 #[.slice A xs.length c, .func (.func 61) #[] #[]] w (ConPost xs.length I J) := by
  have hl : xs.length ≤ 9223372036854775807 := hC.2.1
  have HC := Aside0.mk hC
  have HB := Aside0.mk hB
  have HS := Aside0.mk hstep
  have H0 := Aside0.mk h0
  clear hC hB hstep h0
  go_enter Tryd.func58, Tryd.ntmps58
  go_wp2_with fail
  refine (may_index xs A c  I J w0 _ HC.out HB.out HS.out H0.out).mono ?_
  rintro e w2 hp
  rcases hp with ⟨i, hi, rfl, hj⟩ | ⟨rfl, hi⟩
  · have HJ := Aside0.mk hj
    have h0 : (0 : Int) ≤ (i : Int) := by omega
    clear hj
    go_wp2
    go_ret
    exact Or.inl ⟨rfl, i, hi, HJ.out⟩
  · have HI := Aside0.mk hi
    clear hi
    go_wp2
    go_ret
    exact Or.inr ⟨rfl, HI.out⟩
def partsS (a : Int) : Int := if a = 0 ∨ a = 1 ∨ a = 2 then 0 else if a = 3 ∨ a = 4 then 2 else if a = 5 then 1 else -1
theorem parts_f (a : Int) : regex_parts.f 5 a = some (partsS a) := by
  unfold regex_parts.f partsS
  by_cases h0 : a = 0
  · subst h0; rfl
  by_cases h1 : a = 1
  · subst h1; rfl
  by_cases h2 : a = 2
  · subst h2; rfl
  by_cases h3 : a = 3
  · subst h3; rfl
  by_cases h4 : a = 4
  · subst h4; rfl
  by_cases h5 : a = 5
  · subst h5; rfl
  simp [h0, h1, h2, h3, h4, h5, regex_parts.j0, regex_parts.j1]
/-- ranges of runes -/
def rgOk (l : List Rg) : Bool := l.all (fun x => decide (-2147483648 ≤ x.f0) && decide (x.f0 < 2147483648) && decide (-2147483648 ≤ x.f1) && decide (x.f1 < 2147483648))
theorem okR_of {l : List Rg} (h : rgOk l = true) (hl : l.length ≤ 1000000) : okR l = true := by
  unfold okR
  rw [decide_eq_true hl, Bool.true_and]
  exact h
def ownS (k : Int) (s : List Rg) : Bool := if k = 2 then decide (1 ≤ (s.length : Int)) && decide ((s.length : Int) ≤ 20) && eqS s (normS s) else ((s.length : Int) == 0)
mutual
/-- runes are runes -/
def okT : Re → Bool
  | ⟨_, s, l⟩ => rgOk s && okL l
def okL : List Re → Bool
  | [] => true
  | x :: l => okT x && okL l
end
mutual
/-- each node is as its kind is -/
def mayR : Re → Bool
  | ⟨k, s, l⟩ => decide ((l.length : Int) = partsS k) && mayL l && ownS k s
def mayL : List Re → Bool
  | [] => true
  | x :: l => mayR x && mayL l
end
theorem okL_mem : ∀ {l : List Re}, okL l = true → ∀ x, x ∈ l → okT x = true
  | y :: l, h, x, hx => by
    simp only [okL, Bool.and_eq_true] at h
    rcases List.mem_cons.1 hx with rfl | hx
    · exact h.1
    · exact okL_mem h.2 x hx
theorem mayL_append (b : List Re) : ∀ a : List Re, mayL (a ++ b) = (mayL a && mayL b)
  | [] => by simp only [List.nil_append, mayL, Bool.true_and]
  | x :: a => by simp only [List.cons_append, mayL, mayL_append b a, Bool.and_assoc]
theorem mayL_snoc {l : List Re} {k : Nat} {x : Re} (hx : l[k]? = some x) (h : mayL (l.take k) = true) : mayL (l.take (k + 1)) = mayR x := by
  rw [List.take_add_one, hx, mayL_append, h]
  simp only [Option.toList_some, mayL, Bool.true_and, Bool.and_true]
theorem mayL_front {l : List Re} {k : Nat} (h : mayL (l.take k) = false) : mayL l = false := by
  have e := mayL_append (l.drop k) (l.take k)
  rw [List.take_append_drop, h, Bool.false_and] at e
  exact e
def MayC (x : Re) : Prop := ∀ (w0 W : World) (cs : List Value), Below w0.heap.size w0 W → kRe.K w0 x cs → Calls Tryd.prog 53 #[.agg cs.toArray] W fun e W' => e = .returned (.bool (mayR x)) ∧ Below W.heap.size W W'
set_option maxHeartbeats 1000000 in
theorem may_part {x : Re} (hx : MayC x) (w0 W : World) (cs : List Value) (hB : Below w0.heap.size w0 W) (hK : kRe.K w0 x cs) :
    Calls Tryd.prog 61 #[.agg cs.toArray] W fun e W' => e = .returned (.bool (!mayR x)) ∧ Below W.heap.size W W' := by
  have HX := Aside0.mk hx
  have HK := Aside0.mk hK
  obtain ⟨A1, c1, A2, c2, rfl, _, _, _, _⟩ := k48_open hK
  have HB : Aside0 (∀ o, Below w0.heap.size w0 (W.alloc o)) := ⟨fun o => below_alloc hB o⟩
  clear hK hx hB
  go_enter Tryd.func61, Tryd.ntmps61
  go_wp2_with fail
  refine (HX.out w0 _ _ (HB.out _) HK.out).mono ?_
  rintro e w2 ⟨rfl, hb⟩
  have HB2 := Aside0.mk (join_below (below1 W _) hb)
  clear hb
  go_wp2
  go_ret
  exact ⟨rfl, HB2.out⟩
theorem may_parts (x : Re) (hx : ∀ y, y ∈ x.f2 → MayC y) (w0 Wb : World) (A : Option Addr) (c : Nat) (hC : kRe.C w0 A x.f2.length x.f2) (hB : Below w0.heap.size w0 Wb) :
    Calls Tryd.prog 58 #[.slice A x.f2.length c, .func (.func 61) #[] #[]] Wb fun e W' => e = .returned (.bool (!mayL x.f2)) ∧ Below Wb.heap.size Wb W' := by
  have hj : ∀ W, Below Wb.heap.size Wb W → Below w0.heap.size w0 W := fun W h => hB.trans (h.mono hB.size)
  refine (may_contains x.f2 A c (fun i W => Below Wb.heap.size Wb W ∧ mayL (x.f2.take i) = true) (fun _ W => Below Wb.heap.size Wb W ∧ mayL x.f2 = false) w0 Wb hC (fun i W h => hj W h.1) (fun i y cs W hy hI hK => ?_) ⟨Below.refl _ _, rfl⟩).mono ?_
  · have hs := mayL_snoc hy hI.2
    refine (may_part (hx y (List.mem_of_getElem? hy)) w0 W cs (hj W hI.1) hK).mono ?_
    rintro e W2 ⟨rfl, hb2⟩
    have hb3 := join_below hI.1 hb2
    cases hb : mayR y
    · exact Or.inl ⟨rfl, hb3, mayL_front (hs.trans hb)⟩
    · exact Or.inr ⟨rfl, hb3, hs.trans hb⟩
  · rintro e W2 hp
    rcases hp with ⟨rfl, _, _, hb, hm⟩ | ⟨rfl, hb, hm⟩
    · exact ⟨by rw [hm]; rfl, hb⟩
    · rw [List.take_length] at hm
      exact ⟨by rw [hm]; rfl, hb⟩
set_option maxHeartbeats 2000000 in
set_option maxRecDepth 100000 in
theorem may_go (x : Re) (hx : ∀ y, y ∈ x.f2 → MayC y) (hok : rgOk x.f1 = true) : MayC x := by
  intro w0 W cs hB hK
  obtain ⟨A1, p1, A2, p2, rfl, hp1, hC1, _, hC2⟩ := k48_open hK
  have e1 : mayR x = (decide ((x.f2.length : Int) = partsS x.f0) && mayL x.f2 && ownS x.f0 x.f1) := by
    cases x
    rfl
  obtain ⟨w1, hw1⟩ : ∃ w1, W.alloc (.cells #[.int .i64 x.f0, .slice A1 x.f1.length p1, .slice A2 x.f2.length p2] 48) = w1 := ⟨_, rfl⟩
  have hnew : w1.heap[W.heap.size]? = some (.cells #[.int .i64 x.f0, .slice A1 x.f1.length p1, .slice A2 x.f2.length p2] 48 (0, 0)) := by rw [← hw1]; exact blk_new _ _
  have hB1 : Below W.heap.size W w1 := hw1 ▸ below1 W _
  have hB01 : Below w0.heap.size w0 w1 := hB.trans (hB1.mono hB.size)
  have q0 : ∀ p : Later w1, p.wx.cell? ⟨W.heap.size, 0, none⟩ = some (.int .i64 x.f0) := fun p => cell_after p.below ((blk_cell hnew 0).trans rfl)
  have q1 : ∀ p : Later w1, p.wx.cell? ⟨W.heap.size, 1, none⟩ = some (.slice A1 x.f1.length p1) := fun p => cell_after p.below ((blk_cell hnew 1).trans rfl)
  have q2 : ∀ p : Later w1, p.wx.cell? ⟨W.heap.size, 2, none⟩ = some (.slice A2 x.f2.length p2) := fun p => cell_after p.below ((blk_cell hnew 2).trans rfl)
  have HC1 : Aside0 (∀ W', Below w1.heap.size w1 W' → Kd.C k56 W' A1 x.f1.length x.f1) := ⟨fun W' hb => Kd.C_below (Kd.C_below hC1 hB01) hb⟩
  have HC2 := Aside0.mk hC2
  have HX := Aside0.mk hx
  have HB1 := Aside0.mk hB1
  have HB01 := Aside0.mk hB01
  have HP1 := Aside0.mk hp1
  have HLAT : Aside0 (Below w1.heap.size w1 w1.drew) := ⟨below_drew1 (Below.refl _ _)⟩
  have HE := Aside0.mk e1
  have HN := Aside0.mk hnew
  clear hK hx hB hC1 hC2 hB1 hB01 hp1 e1 hnew
  obtain ⟨b, hb⟩ : ∃ b, mayR x = b := ⟨_, rfl⟩
  rw [hb]
  have HQ := Aside0.mk hb
  clear hb
  have ret : ∀ v w', mayR x = v → Below W.heap.size W w' → (Ending.returned (.bool v) = Ending.returned (.bool b) ∧ Below W.heap.size W w') := fun v w' h1 h2 => ⟨by rw [← HQ.out, h1], h2⟩
  have RET := Aside0.mk ret
  clear ret
  by_cases c : (x.f2.length : Int) = partsS x.f0
  · have hne : ((x.f2.length : Int) != partsS x.f0) = false := bne_eq_false_iff_eq.2 c
    have HE2 : Aside0 (mayR x = (mayL x.f2 && ownS x.f0 x.f1)) := ⟨by rw [HE.out, decide_eq_true c, Bool.true_and]⟩
    clear c HE
    go_enter Tryd.func53, Tryd.ntmps53
    go_wp2
    clear hw1
    have hund : undef = Value.tuple #[] := rfl
    refine wp_region_held (S := fun w' => ∃ p : Later w1, w' = p.wx) (by kernel_rfl) ?_
    change wpAnyH _ _ _ _ _ _ _ _ (World.drew _)
    ((refine takeQ (i := 0) (by rfl) (by kernel_rfl) (by kernel_rfl) (by kernel_rfl) ?_ ?_ ?_); (focus exact fun _ _ _ _ h => h); (focus exact ⟨⟨_, HLAT.out⟩, rfl⟩); intro K hK; go_simp; (with_reducible refine hK _ ?_); clear hK K)
    ((refine takeQ (i := 1) (by rfl) (by kernel_rfl) (by kernel_rfl) (by kernel_rfl) ?_ ?_ ?_); (focus exact fun _ _ _ _ h => h); (focus exact ⟨⟨_, HLAT.out⟩, rfl⟩); intro K hK; go_simp; (with_reducible refine hK _ ?_); clear hK K)
    ((refine takeQ (i := 2) (by rfl) (by kernel_rfl) (by kernel_rfl) (by kernel_rfl) ?_ ?_ ?_); (focus exact fun _ _ _ _ h => h); (focus exact ⟨⟨_, HLAT.out⟩, rfl⟩); intro K hK; go_simp; (with_reducible refine hK _ ?_); clear hK K)
    ((refine takeQ (i := 3) (by rfl) (by kernel_rfl) (by kernel_rfl) (by kernel_rfl) ?_ ?_ ?_); (focus exact fun _ _ _ _ h => h); (focus exact ⟨⟨_, HLAT.out⟩, rfl⟩); intro K hK; go_simp; (with_reducible refine hK _ ?_); clear hK K)
    ((refine takeQ (i := 4) (by rfl) (by kernel_rfl) (by kernel_rfl) (by kernel_rfl) ?_ ?_ ?_); (focus exact fun _ _ _ _ h => h); (focus exact ⟨⟨_, HLAT.out⟩, rfl⟩); intro K hK; go_simp; (with_reducible refine hK _ ?_); clear hK K)
    refine hall1 (i := 5) (by kernel_rfl) (by rfl) (fun K hK => ?_)
    go_simp
    refine (regex_parts.calls 5 x.f0 (partsS x.f0) _ (parts_f _)).mono ?_
    rintro e u1 ⟨rfl, hd⟩
    have HU1 : Aside0 (Below w1.heap.size w1 u1) := ⟨join_below HLAT.out hd.below⟩
    clear hd
    refine hK _ _ ⟨⟨_, HU1.out⟩, rfl⟩ ?_
    clear hK K
    ((refine takeQ (i := 6) (by rfl) (by kernel_rfl) (by kernel_rfl) (by kernel_rfl) ?_ ?_ ?_); (focus exact fun _ _ _ _ h => h); (focus exact ⟨⟨_, HU1.out⟩, rfl⟩); intro K hK; go_simp; (with_reducible refine hK _ ?_); clear hK K)
    ((refine takeQ (i := 7) (by rfl) (by kernel_rfl) (by kernel_rfl) (by kernel_rfl) ?_ ?_ ?_); (focus exact fun _ _ _ _ h => h); (focus exact ⟨⟨_, HU1.out⟩, rfl⟩); intro K hK; go_simp; (with_reducible refine hK _ ?_); clear hK K)
    ((refine takeQ (i := 8) (by rfl) (by kernel_rfl) (by kernel_rfl) (by kernel_rfl) ?_ ?_ ?_); (focus exact fun _ _ _ _ h => h); (focus exact ⟨⟨_, HU1.out⟩, rfl⟩); intro K hK; go_simp; (with_reducible refine hK _ ?_); clear hK K)
    ((refine takeQ (i := 9) (by rfl) (by kernel_rfl) (by kernel_rfl) (by kernel_rfl) ?_ ?_ ?_); (focus exact fun _ _ _ _ h => h); (focus exact ⟨⟨_, HU1.out⟩, rfl⟩); intro K hK; go_simp; (with_reducible refine hK _ ?_); clear hK K)
    refine hall1 (i := 10) (by kernel_rfl) (by rfl) (fun K hK => ?_)
    go_simp
    refine (may_parts x HX.out w0 _ A2 p2 HC2.out (HB01.out.trans (HU1.out.mono HB01.out.size))).mono ?_
    rintro e u2 ⟨rfl, hd⟩
    have HU2 : Aside0 (Below w1.heap.size w1 u2) := ⟨join_below HU1.out hd⟩
    clear hd HU1
    refine hK _ _ ⟨⟨_, HU2.out⟩, rfl⟩ ?_
    clear hK K
    have z0 : u2.cell? ⟨W.heap.size, 0, none⟩ = some (.int .i64 x.f0) := q0 ⟨u2, HU2.out⟩
    have z1 : u2.cell? ⟨W.heap.size, 1, none⟩ = some (.slice A1 x.f1.length p1) := q1 ⟨u2, HU2.out⟩
    have HB2 : Aside0 (Below W.heap.size W u2) := ⟨join_below HB1.out HU2.out⟩
    have HC1' := Aside0.mk (HC1.out u2 HU2.out)
    cases hm : mayL x.f2
    · have HR : Aside0 (mayR x = false) := ⟨by rw [HE2.out, hm]; rfl⟩
      clear hm
      ((refine takeQ (i := 11) (by rfl) (by kernel_rfl) (by kernel_rfl) (by kernel_rfl) ?_ ?_ ?_); (focus exact fun _ _ _ _ h => h); (focus exact ⟨⟨_, HU2.out⟩, rfl⟩); intro K hK; go_simp; (with_reducible refine hK _ ?_); clear hK K)
      refine wpAnyH_done (by kernel_rfl) ?_ _
      clear q0 q1 q2
      go_wp2
      go_ret
      exact RET.out _ _ HR.out HB2.out
    · have HR : Aside0 (mayR x = ownS x.f0 x.f1) := ⟨by rw [HE2.out, hm]; rfl⟩
      clear hm
      ((refine takeQ (i := 11) (by rfl) (by kernel_rfl) (by kernel_rfl) (by kernel_rfl) ?_ ?_ ?_); (focus exact fun _ _ _ _ h => h); (focus exact ⟨⟨_, HU2.out⟩, rfl⟩); intro K hK; go_simp; (with_reducible refine hK _ ?_); clear hK K)
      refine wpAnyH_done (by kernel_rfl) ?_ _
      clear q0 q1 q2
      by_cases k2 : x.f0 = 2
      · have k2b : (x.f0 != 2) = false := bne_eq_false_iff_eq.2 k2
        by_cases k3 : 1 ≤ (x.f1.length : Int)
        · by_cases k4 : (x.f1.length : Int) ≤ 20
          · have HO : Aside0 (ownS x.f0 x.f1 = eqS x.f1 (normS x.f1)) := ⟨by unfold ownS; rw [if_pos k2, decide_eq_true k3, decide_eq_true k4]; rfl⟩
            have hokR : okR x.f1 = true := okR_of hok (by omega)
            have HM := Aside0.mk (may_f x.f1 hokR 30 (by omega))
            clear k2 hokR
            go_wp2_with fail
            refine (runes_May.calls 30 A1 p1 x.f1 _ _ HC1'.out HP1.out HM.out).mono ?_
            rintro e u3 ⟨rfl, hb⟩
            have HB3 := Aside0.mk (join_below HB2.out hb)
            clear hb
            go_wp2
            go_ret
            exact RET.out _ _ (HR.out.trans HO.out) HB3.out
          · have HO : Aside0 (ownS x.f0 x.f1 = false) := ⟨by unfold ownS; rw [if_pos k2, decide_eq_false k4, Bool.and_false, Bool.false_and]⟩
            have k4b : decide ((x.f1.length : Int) ≤ 20) = false := decide_eq_false k4
            have k4c : decide (x.f1.length ≤ 20) = false := decide_eq_false (by omega)
            clear k2 k4
            go_wp2
            go_ret
            exact RET.out _ _ (HR.out.trans HO.out) HB2.out
        · have HO : Aside0 (ownS x.f0 x.f1 = false) := ⟨by unfold ownS; rw [if_pos k2, decide_eq_false k3, Bool.false_and, Bool.false_and]⟩
          have k3b : decide (1 ≤ (x.f1.length : Int)) = false := decide_eq_false k3
          have k3c : decide (1 ≤ x.f1.length) = false := decide_eq_false (by omega)
          clear k2 k3
          go_wp2
          go_ret
          exact RET.out _ _ (HR.out.trans HO.out) HB2.out
      · have k2b : (x.f0 != 2) = true := bne_iff_ne.2 k2
        have HO : Aside0 (ownS x.f0 x.f1 = ((x.f1.length : Int) == 0)) := ⟨by unfold ownS; rw [if_neg k2]⟩
        clear k2
        go_wp2
        go_ret
        exact RET.out _ _ (HR.out.trans HO.out) HB2.out
  · have hne : ((x.f2.length : Int) != partsS x.f0) = true := bne_iff_ne.2 c
    have HR : Aside0 (mayR x = false) := ⟨by rw [HE.out, decide_eq_false c]; rfl⟩
    clear c
    go_enter Tryd.func53, Tryd.ntmps53
    go_wp2
    clear hw1
    have hund : undef = Value.tuple #[] := rfl
    refine wp_region_held (S := fun w' => ∃ p : Later w1, w' = p.wx) (by kernel_rfl) ?_
    change wpAnyH _ _ _ _ _ _ _ _ (World.drew _)
    ((refine takeQ (i := 0) (by rfl) (by kernel_rfl) (by kernel_rfl) (by kernel_rfl) ?_ ?_ ?_); (focus exact fun _ _ _ _ h => h); (focus exact ⟨⟨_, HLAT.out⟩, rfl⟩); intro K hK; go_simp; (with_reducible refine hK _ ?_); clear hK K)
    ((refine takeQ (i := 1) (by rfl) (by kernel_rfl) (by kernel_rfl) (by kernel_rfl) ?_ ?_ ?_); (focus exact fun _ _ _ _ h => h); (focus exact ⟨⟨_, HLAT.out⟩, rfl⟩); intro K hK; go_simp; (with_reducible refine hK _ ?_); clear hK K)
    ((refine takeQ (i := 2) (by rfl) (by kernel_rfl) (by kernel_rfl) (by kernel_rfl) ?_ ?_ ?_); (focus exact fun _ _ _ _ h => h); (focus exact ⟨⟨_, HLAT.out⟩, rfl⟩); intro K hK; go_simp; (with_reducible refine hK _ ?_); clear hK K)
    ((refine takeQ (i := 3) (by rfl) (by kernel_rfl) (by kernel_rfl) (by kernel_rfl) ?_ ?_ ?_); (focus exact fun _ _ _ _ h => h); (focus exact ⟨⟨_, HLAT.out⟩, rfl⟩); intro K hK; go_simp; (with_reducible refine hK _ ?_); clear hK K)
    ((refine takeQ (i := 4) (by rfl) (by kernel_rfl) (by kernel_rfl) (by kernel_rfl) ?_ ?_ ?_); (focus exact fun _ _ _ _ h => h); (focus exact ⟨⟨_, HLAT.out⟩, rfl⟩); intro K hK; go_simp; (with_reducible refine hK _ ?_); clear hK K)
    refine hall1 (i := 5) (by kernel_rfl) (by rfl) (fun K hK => ?_)
    go_simp
    refine (regex_parts.calls 5 x.f0 (partsS x.f0) _ (parts_f _)).mono ?_
    rintro e u1 ⟨rfl, hd⟩
    have HU1 : Aside0 (Below w1.heap.size w1 u1) := ⟨join_below HLAT.out hd.below⟩
    clear hd
    refine hK _ _ ⟨⟨_, HU1.out⟩, rfl⟩ ?_
    clear hK K
    ((refine takeQ (i := 6) (by rfl) (by kernel_rfl) (by kernel_rfl) (by kernel_rfl) ?_ ?_ ?_); (focus exact fun _ _ _ _ h => h); (focus exact ⟨⟨_, HU1.out⟩, rfl⟩); intro K hK; go_simp; (with_reducible refine hK _ ?_); clear hK K)
    ((refine takeQ (i := 7) (by rfl) (by kernel_rfl) (by kernel_rfl) (by kernel_rfl) ?_ ?_ ?_); (focus exact fun _ _ _ _ h => h); (focus exact ⟨⟨_, HU1.out⟩, rfl⟩); intro K hK; go_simp; (with_reducible refine hK _ ?_); clear hK K)
    ((refine takeQ (i := 8) (by rfl) (by kernel_rfl) (by kernel_rfl) (by kernel_rfl) ?_ ?_ ?_); (focus exact fun _ _ _ _ h => h); (focus exact ⟨⟨_, HU1.out⟩, rfl⟩); intro K hK; go_simp; (with_reducible refine hK _ ?_); clear hK K)
    ((refine takeQ (i := 9) (by rfl) (by kernel_rfl) (by kernel_rfl) (by kernel_rfl) ?_ ?_ ?_); (focus exact fun _ _ _ _ h => h); (focus exact ⟨⟨_, HU1.out⟩, rfl⟩); intro K hK; go_simp; (with_reducible refine hK _ ?_); clear hK K)
    ((refine takeQ (i := 10) (by rfl) (by kernel_rfl) (by kernel_rfl) (by kernel_rfl) ?_ ?_ ?_); (focus exact fun _ _ _ _ h => h); (focus exact ⟨⟨_, HU1.out⟩, rfl⟩); intro K hK; go_simp; (with_reducible refine hK _ ?_); clear hK K)
    ((refine takeQ (i := 11) (by rfl) (by kernel_rfl) (by kernel_rfl) (by kernel_rfl) ?_ ?_ ?_); (focus exact fun _ _ _ _ h => h); (focus exact ⟨⟨_, HU1.out⟩, rfl⟩); intro K hK; go_simp; (with_reducible refine hK _ ?_); clear hK K)
    refine wpAnyH_done (by kernel_rfl) ?_ _
    go_wp2
    go_ret
    exact RET.out _ _ HR.out (join_below HB1.out HU1.out)
theorem may_all : ∀ (N : Nat) (x : Re), SizeOf.sizeOf x < N → okT x = true → MayC x
  | 0, x, h, _ => absurd h (Nat.not_lt_zero _)
  | N + 1, x, h, hok => by
    have ho : rgOk x.f1 = true ∧ okL x.f2 = true := by
      cases x
      simpa only [okT, Bool.and_eq_true] using hok
    exact may_go x (fun y hy => may_all N y (by
      have h1 := List.sizeOf_lt_of_mem hy
      have h2 : SizeOf.sizeOf x.f2 < SizeOf.sizeOf x := by
        cases x
        simp
        omega
      omega) (okL_mem ho.2 y hy)) ho.1
def regex_may.f (a0 : Int) (l1 : List Rg) (l2 : List Re) : Option Bool := if okT ⟨a0, l1, l2⟩ = true then some (mayR ⟨a0, l1, l2⟩) else none
theorem regex_may.calls (a0_0 : Int) (A0_1 : Option Addr) (c0_1 : Nat) (l0_1 : List Rg) (A0_2 : Option Addr) (c0_2 : Nat) (l0_2 : List Re) (r : Bool) (w : World) (hr0_1 : Kd.C k56 w A0_1 l0_1.length l0_1) (hc0_1 : l0_1.length ≤ c0_1) (hr0_2 : Kd.C k48 w A0_2 l0_2.length l0_2) (hc0_2 : l0_2.length ≤ c0_2) (h : regex_may.f a0_0 l0_1 l0_2 = some r) :
    Calls Tryd.prog 53 #[.agg #[.int .i64 a0_0, .slice A0_1 l0_1.length c0_1, .slice A0_2 l0_2.length c0_2]] w fun e w' => e = .returned (.bool r) ∧ Below w.heap.size w w' := by
  have hok : okT ⟨a0_0, l0_1, l0_2⟩ = true := by
    unfold regex_may.f at h
    by_cases c : okT ⟨a0_0, l0_1, l0_2⟩ = true
    · exact c
    · rw [if_neg c] at h
      cases h
  have hr : mayR ⟨a0_0, l0_1, l0_2⟩ = r := by
    unfold regex_may.f at h
    rw [if_pos hok] at h
    exact Option.some.inj h
  rw [← hr]
  exact may_all _ ⟨a0_0, l0_1, l0_2⟩ (Nat.lt_succ_self _) hok w w _ (Below.refl _ _) (k48_mk w ⟨a0_0, l0_1, l0_2⟩ hc0_1 hr0_1 hc0_2 hr0_2)
end Go.Proofs.YthdfmbmbjpmlaaaDoor.Rn
namespace Go.Proofs.YthdfmbmbjpmlaaaDoor.Rn
open Go.RowKit Go.Proofs.YthdfmbmbjpmlaaaDoorW.PrintWords Go.Proofs.YthdfmbmbjpmlaaaDoorW.PrintLast Go.Proofs.YthdfmbmbjpmlaaaDoorW.PrintMore
attribute [local go_sem] max2_int min2_int max_two min_two max_three min_three max_four min_four   -- for this text's walks alone
set_option linter.unusedVariables false
set_option linter.unusedSimpArgs false
/-! ### regex_May: function 43 -/
def regex_May.f (a0_0 : Int) (l0_1 : List (S56)) (l0_2 : List (S48)) : Option (Bool) := (regex_within.f a0_0 l0_1 l0_2).bind fun t298 => (if t298 = true then ((regex_may.f a0_0 l0_1 l0_2).bind fun t299 => (some t299)) else (some false))
set_option maxHeartbeats 8000000 in
set_option maxRecDepth 100000 in
theorem regex_May.calls (a0_0 : Int) (A0_1 : Option Addr) (c0_1 : Nat) (l0_1 : List (S56)) (A0_2 : Option Addr) (c0_2 : Nat) (l0_2 : List (S48)) (r : Bool) (w : World) (hr0_1 : Kd.C k56 w A0_1 l0_1.length l0_1) (hc0_1 : l0_1.length ≤ c0_1) (hr0_2 : Kd.C k48 w A0_2 l0_2.length l0_2) (hc0_2 : l0_2.length ≤ c0_2) (h : regex_May.f a0_0 l0_1 l0_2 = some r) :
    Calls Tryd.prog 43 #[.agg #[.int .i64 a0_0, .slice A0_1 l0_1.length c0_1, .slice A0_2 l0_2.length c0_2]] w fun e w' => e = .returned (.bool r) ∧ Below w.heap.size w w' := by
  have hu48 := Tryd.underlying48
  have HR0_1 := Aside0.mk hr0_1
  have HC0_1 := Aside0.mk hc0_1
  clear hr0_1 hc0_1
  have HR0_2 := Aside0.mk hr0_2
  have HC0_2 := Aside0.mk hc0_2
  clear hr0_2 hc0_2
  have HB := Aside0.mk (Below.refl w.heap.size w)
  have H : ((regex_within.f a0_0 l0_1 l0_2).bind fun t298 => (if t298 = true then ((regex_may.f a0_0 l0_1 l0_2).bind fun t299 => (some t299)) else (some false))) = some r := h
  clear h
  replace H := Option.bind_eq_some_iff.mp H
  obtain ⟨t298, A20, H⟩ := H
  replace H : (if t298 = true then ((regex_may.f a0_0 l0_1 l0_2).bind fun t299 => (some t299)) else (some false)) = some r := H
  have A2 := Aside0.mk A20
  clear A20
  by_cases c3 : t298 = true
  · subst c3
    have H1 : ((regex_may.f a0_0 l0_1 l0_2).bind fun t299 => (some t299)) = some r := by rw [if_pos rfl] at H; exact H
    clear H
    have H := H1
    clear H1
    replace H := Option.bind_eq_some_iff.mp H
    obtain ⟨t299, A40, H⟩ := H
    replace H : (some t299) = some r := H
    have A4 := Aside0.mk A40
    clear A40
    obtain rfl := Option.some.inj H
    go_enter Tryd.func43, Tryd.ntmps43
    go_wp2_with (first | ((with_reducible refine gate_dst (N := 1) rfl ?_); refine box_event ?hg (N := 1) ?hd (cs := #[.int .i64 a0_0, .slice A0_1 l0_1.length c0_1, .slice A0_2 l0_2.length c0_2]) (t := 48) ?hr ?_; (case hd => rfl); (case hg => rfl); (case hr => first | (go_simp; done) | (go_simp; rfl)); intro gb297 hg w5 hbox hb; have n0_ := Aside0.mk (below_step (by repeat (first | (with_reducible first | exact HB.out | apply below_alloc | apply pw_below_drewN | apply below_drew1) | exact HB.out)) hb); have n1_ := Aside0.mk (hbox); have n2_ := Aside0.mk ((by rw [hg]; exact (below_size (by repeat (first | (with_reducible first | exact HB.out | apply below_alloc | apply pw_below_drewN | apply below_drew1) | exact HB.out))) : w.heap.size ≤ gb297)); have n3_ := Aside0.mk ((by rw [hg]; exact (below_size (by repeat (first | (with_reducible first | exact HB.out | apply below_alloc | apply pw_below_drewN | apply below_drew1) | exact HB.out))) : w.heap.size ≤ gb297)); clear HB; have HB := n0_; have BK297 := n1_; have GW297 := n2_; have GE297 := n3_; clear n0_ n1_ n2_ n3_; clear hb hbox hg; have hcz6_0 : w5.cell? ⟨gb297, 0, none⟩ = some (.int .i64 a0_0) := (blk_cell BK297.out 0).trans rfl; have hcz6_1 : w5.cell? ⟨gb297, 1, none⟩ = some (.slice A0_1 l0_1.length c0_1) := (blk_cell BK297.out 1).trans rfl; have hcz6_2 : w5.cell? ⟨gb297, 2, none⟩ = some (.slice A0_2 l0_2.length c0_2) := (blk_cell BK297.out 2).trans rfl; have hfz6_0 := blk_frozen BK297.out 0; have hfz6_1 := blk_frozen BK297.out 1; have hfz6_2 := blk_frozen BK297.out 2) | ((with_reducible refine gate_callee (f := 52) rfl ?_); refine goesL_ (some 4) rfl rfl Tryd.func52 (by kernel_rfl) rfl #[.agg #[.int .i64 a0_0, .slice A0_1 l0_1.length c0_1, .slice A0_2 l0_2.length c0_2]] rfl (by (try simp only [List.map_toArray, List.map_cons, List.map_nil]); first | done | rfl | (simp only [List.length_drop, List.length_take]; rfl)) ?_; (with_reducible refine (regex_within.calls a0_0 _ _ l0_1 _ _ l0_2 true _ ?side1 ?side2 ?side3 ?side4 A2.out).mono ?_); (case side1 => repeat (first | exact (Kd.C_below HR0_1.out HB.out) | (with_reducible refine Kd.C_alloc ?_ _) | (with_reducible refine Kd.C_drewN ?_ _) | (with_reducible refine Kd.C_drew ?_))); (case side2 => exact HC0_1.out); (case side3 => repeat (first | exact (Kd.C_below HR0_2.out HB.out) | (with_reducible refine Kd.C_alloc ?_ _) | (with_reducible refine Kd.C_drewN ?_ _) | (with_reducible refine Kd.C_drew ?_))); (case side4 => exact HC0_2.out); rintro e w7 ⟨rfl, hb⟩; refine ⟨_, rfl, ?_⟩; have n0_ := Aside0.mk (blk_below (g := gb297) (o := .cells #[.int .i64 a0_0, .slice A0_1 l0_1.length c0_1, .slice A0_2 l0_2.length c0_2] 48 (0, 0)) (by (with_reducible repeat (first | refine blk_drewN ?_ _ | refine blk_drew ?_ | refine blk_alloc ?_ _)); exact BK297.out) hb); have n1_ := Aside0.mk (below_step (by repeat (first | (with_reducible first | exact HB.out | apply below_alloc | apply pw_below_drewN | apply below_drew1 | refine below_set ?_ GE297.out) | exact HB.out)) hb); clear BK297; clear HB; have BK297 := n0_; have HB := n1_; clear n0_ n1_; (try clear hb); (try clear hb2); (try clear hk); (try clear hi); have hcz8_0 : w7.cell? ⟨gb297, 0, none⟩ = some (.int .i64 a0_0) := (blk_cell BK297.out 0).trans rfl; have hcz8_1 : w7.cell? ⟨gb297, 1, none⟩ = some (.slice A0_1 l0_1.length c0_1) := (blk_cell BK297.out 1).trans rfl; have hcz8_2 : w7.cell? ⟨gb297, 2, none⟩ = some (.slice A0_2 l0_2.length c0_2) := (blk_cell BK297.out 2).trans rfl; have hfz8_0 := blk_frozen BK297.out 0; have hfz8_1 := blk_frozen BK297.out 1; have hfz8_2 := blk_frozen BK297.out 2) | (go_at_call 53; (with_reducible refine (regex_may.calls a0_0 _ _ l0_1 _ _ l0_2 t299 _ ?side1 ?side2 ?side3 ?side4 A4.out).mono ?_); (case side1 => repeat (first | exact (Kd.C_below HR0_1.out HB.out) | (with_reducible refine Kd.C_alloc ?_ _) | (with_reducible refine Kd.C_drewN ?_ _) | (with_reducible refine Kd.C_drew ?_))); (case side2 => exact HC0_1.out); (case side3 => repeat (first | exact (Kd.C_below HR0_2.out HB.out) | (with_reducible refine Kd.C_alloc ?_ _) | (with_reducible refine Kd.C_drewN ?_ _) | (with_reducible refine Kd.C_drew ?_))); (case side4 => exact HC0_2.out); rintro e w9 ⟨rfl, hb⟩; have n0_ := Aside0.mk (blk_below (g := gb297) (o := .cells #[.int .i64 a0_0, .slice A0_1 l0_1.length c0_1, .slice A0_2 l0_2.length c0_2] 48 (0, 0)) (by (with_reducible repeat (first | refine blk_drewN ?_ _ | refine blk_drew ?_ | refine blk_alloc ?_ _)); exact BK297.out) hb); have n1_ := Aside0.mk (below_step (by repeat (first | (with_reducible first | exact HB.out | apply below_alloc | apply pw_below_drewN | apply below_drew1 | refine below_set ?_ GE297.out) | exact HB.out)) hb); clear BK297; clear HB; have BK297 := n0_; have HB := n1_; clear n0_ n1_; (try clear hb); (try clear hb2); (try clear hk); (try clear hi)))
    go_ret
    exact ⟨by first | rfl | (simp [errW_none, errW_some] <;> rfl) | (simp [*, errW_none, errW_some] <;> rfl), by repeat (first | (with_reducible first | exact HB.out | apply below_alloc | apply pw_below_drewN | apply below_drew1 | refine below_set ?_ GE297.out) | exact HB.out)⟩
  · replace c3 := Bool.eq_false_iff.mpr c3
    subst c3
    have H1 : (some false) = some r := by rw [if_neg (show ¬ (false = true) by decide)] at H; exact H
    clear H
    have H := H1
    clear H1
    obtain rfl := Option.some.inj H
    go_enter Tryd.func43, Tryd.ntmps43
    go_wp2_with (first | ((with_reducible refine gate_dst (N := 1) rfl ?_); refine box_event ?hg (N := 1) ?hd (cs := #[.int .i64 a0_0, .slice A0_1 l0_1.length c0_1, .slice A0_2 l0_2.length c0_2]) (t := 48) ?hr ?_; (case hd => rfl); (case hg => rfl); (case hr => first | (go_simp; done) | (go_simp; rfl)); intro gb297 hg w10 hbox hb; have n0_ := Aside0.mk (below_step (by repeat (first | (with_reducible first | exact HB.out | apply below_alloc | apply pw_below_drewN | apply below_drew1) | exact HB.out)) hb); have n1_ := Aside0.mk (hbox); have n2_ := Aside0.mk ((by rw [hg]; exact (below_size (by repeat (first | (with_reducible first | exact HB.out | apply below_alloc | apply pw_below_drewN | apply below_drew1) | exact HB.out))) : w.heap.size ≤ gb297)); have n3_ := Aside0.mk ((by rw [hg]; exact (below_size (by repeat (first | (with_reducible first | exact HB.out | apply below_alloc | apply pw_below_drewN | apply below_drew1) | exact HB.out))) : w.heap.size ≤ gb297)); clear HB; have HB := n0_; have BK297 := n1_; have GW297 := n2_; have GE297 := n3_; clear n0_ n1_ n2_ n3_; clear hb hbox hg; have hcz11_0 : w10.cell? ⟨gb297, 0, none⟩ = some (.int .i64 a0_0) := (blk_cell BK297.out 0).trans rfl; have hcz11_1 : w10.cell? ⟨gb297, 1, none⟩ = some (.slice A0_1 l0_1.length c0_1) := (blk_cell BK297.out 1).trans rfl; have hcz11_2 : w10.cell? ⟨gb297, 2, none⟩ = some (.slice A0_2 l0_2.length c0_2) := (blk_cell BK297.out 2).trans rfl; have hfz11_0 := blk_frozen BK297.out 0; have hfz11_1 := blk_frozen BK297.out 1; have hfz11_2 := blk_frozen BK297.out 2) | ((with_reducible refine gate_callee (f := 52) rfl ?_); refine goesL_ (some 4) rfl rfl Tryd.func52 (by kernel_rfl) rfl #[.agg #[.int .i64 a0_0, .slice A0_1 l0_1.length c0_1, .slice A0_2 l0_2.length c0_2]] rfl (by (try simp only [List.map_toArray, List.map_cons, List.map_nil]); first | done | rfl | (simp only [List.length_drop, List.length_take]; rfl)) ?_; (with_reducible refine (regex_within.calls a0_0 _ _ l0_1 _ _ l0_2 false _ ?side1 ?side2 ?side3 ?side4 A2.out).mono ?_); (case side1 => repeat (first | exact (Kd.C_below HR0_1.out HB.out) | (with_reducible refine Kd.C_alloc ?_ _) | (with_reducible refine Kd.C_drewN ?_ _) | (with_reducible refine Kd.C_drew ?_))); (case side2 => exact HC0_1.out); (case side3 => repeat (first | exact (Kd.C_below HR0_2.out HB.out) | (with_reducible refine Kd.C_alloc ?_ _) | (with_reducible refine Kd.C_drewN ?_ _) | (with_reducible refine Kd.C_drew ?_))); (case side4 => exact HC0_2.out); rintro e w12 ⟨rfl, hb⟩; refine ⟨_, rfl, ?_⟩; have n0_ := Aside0.mk (blk_below (g := gb297) (o := .cells #[.int .i64 a0_0, .slice A0_1 l0_1.length c0_1, .slice A0_2 l0_2.length c0_2] 48 (0, 0)) (by (with_reducible repeat (first | refine blk_drewN ?_ _ | refine blk_drew ?_ | refine blk_alloc ?_ _)); exact BK297.out) hb); have n1_ := Aside0.mk (below_step (by repeat (first | (with_reducible first | exact HB.out | apply below_alloc | apply pw_below_drewN | apply below_drew1 | refine below_set ?_ GE297.out) | exact HB.out)) hb); clear BK297; clear HB; have BK297 := n0_; have HB := n1_; clear n0_ n1_; (try clear hb); (try clear hb2); (try clear hk); (try clear hi)))
    go_ret
    exact ⟨by first | rfl | (simp [errW_none, errW_some] <;> rfl) | (simp [*, errW_none, errW_some] <;> rfl), by repeat (first | (with_reducible first | exact HB.out | apply below_alloc | apply pw_below_drewN | apply below_drew1 | refine below_set ?_ GE297.out) | exact HB.out)⟩

/-! ### regex_Empty: function 44 -/
def regex_Empty.f (k : Nat) (a0_0 : Int) (l0_1 : List (S56)) (l0_2 : List (S48)) : Option (Bool) := (regex_May.f a0_0 l0_1 l0_2).bind fun t310 => (if t310 = true then ((regex_empty.f k a0_0 l0_1 l0_2).bind fun t311 => (some t311)) else (some false))
theorem regex_Empty.mono : ∀ a0 a1 a2 k, LeO (regex_Empty.f k a0 a1 a2) (regex_Empty.f (k + 1) a0 a1 a2) := by
  intro a0 a1 a2 k
  unfold regex_Empty.f
  repeat' first
      | (with_reducible exact regex_empty.mono _ _ _ _)
      | (with_reducible exact LeO.refl _)
      | (with_reducible exact LeO.none _)
      | (with_reducible refine LeO.ite ?_ ?_)
      | (with_reducible refine LeO.bind ?_ (fun _ => ?_))
      | exact regex_empty.mono _ _ _ _
      | exact LeO.none _
      | refine LeO.ite ?_ ?_
      | refine LeO.bind ?_ (fun _ => ?_)
set_option maxHeartbeats 8000000 in
set_option maxRecDepth 100000 in
theorem regex_Empty.calls (k : Nat) (a0_0 : Int) (A0_1 : Option Addr) (c0_1 : Nat) (l0_1 : List (S56)) (A0_2 : Option Addr) (c0_2 : Nat) (l0_2 : List (S48)) (r : Bool) (w : World) (hr0_1 : Kd.C k56 w A0_1 l0_1.length l0_1) (hc0_1 : l0_1.length ≤ c0_1) (hr0_2 : Kd.C k48 w A0_2 l0_2.length l0_2) (hc0_2 : l0_2.length ≤ c0_2) (h : regex_Empty.f k a0_0 l0_1 l0_2 = some r) :
    Calls Tryd.prog 44 #[.agg #[.int .i64 a0_0, .slice A0_1 l0_1.length c0_1, .slice A0_2 l0_2.length c0_2]] w fun e w' => e = .returned (.bool r) ∧ Below w.heap.size w w' := by
  have hu48 := Tryd.underlying48
  have HR0_1 := Aside0.mk hr0_1
  have HC0_1 := Aside0.mk hc0_1
  clear hr0_1 hc0_1
  have HR0_2 := Aside0.mk hr0_2
  have HC0_2 := Aside0.mk hc0_2
  clear hr0_2 hc0_2
  have HB := Aside0.mk (Below.refl w.heap.size w)
  have H : ((regex_May.f a0_0 l0_1 l0_2).bind fun t310 => (if t310 = true then ((regex_empty.f k a0_0 l0_1 l0_2).bind fun t311 => (some t311)) else (some false))) = some r := h
  clear h
  replace H := Option.bind_eq_some_iff.mp H
  obtain ⟨t310, A20, H⟩ := H
  replace H : (if t310 = true then ((regex_empty.f k a0_0 l0_1 l0_2).bind fun t311 => (some t311)) else (some false)) = some r := H
  have A2 := Aside0.mk A20
  clear A20
  by_cases c3 : t310 = true
  · subst c3
    have H1 : ((regex_empty.f k a0_0 l0_1 l0_2).bind fun t311 => (some t311)) = some r := by rw [if_pos rfl] at H; exact H
    clear H
    have H := H1
    clear H1
    replace H := Option.bind_eq_some_iff.mp H
    obtain ⟨t311, A40, H⟩ := H
    replace H : (some t311) = some r := H
    have A4 := Aside0.mk A40
    clear A40
    obtain rfl := Option.some.inj H
    go_enter Tryd.func44, Tryd.ntmps44
    go_wp2_with (first | ((with_reducible refine gate_dst (N := 1) rfl ?_); refine box_event ?hg (N := 1) ?hd (cs := #[.int .i64 a0_0, .slice A0_1 l0_1.length c0_1, .slice A0_2 l0_2.length c0_2]) (t := 48) ?hr ?_; (case hd => rfl); (case hg => rfl); (case hr => first | (go_simp; done) | (go_simp; rfl)); intro gb309 hg w5 hbox hb; have n0_ := Aside0.mk (below_step (by repeat (first | (with_reducible first | exact HB.out | apply below_alloc | apply pw_below_drewN | apply below_drew1) | exact HB.out)) hb); have n1_ := Aside0.mk (hbox); have n2_ := Aside0.mk ((by rw [hg]; exact (below_size (by repeat (first | (with_reducible first | exact HB.out | apply below_alloc | apply pw_below_drewN | apply below_drew1) | exact HB.out))) : w.heap.size ≤ gb309)); have n3_ := Aside0.mk ((by rw [hg]; exact (below_size (by repeat (first | (with_reducible first | exact HB.out | apply below_alloc | apply pw_below_drewN | apply below_drew1) | exact HB.out))) : w.heap.size ≤ gb309)); clear HB; have HB := n0_; have BK309 := n1_; have GW309 := n2_; have GE309 := n3_; clear n0_ n1_ n2_ n3_; clear hb hbox hg; have hcz6_0 : w5.cell? ⟨gb309, 0, none⟩ = some (.int .i64 a0_0) := (blk_cell BK309.out 0).trans rfl; have hcz6_1 : w5.cell? ⟨gb309, 1, none⟩ = some (.slice A0_1 l0_1.length c0_1) := (blk_cell BK309.out 1).trans rfl; have hcz6_2 : w5.cell? ⟨gb309, 2, none⟩ = some (.slice A0_2 l0_2.length c0_2) := (blk_cell BK309.out 2).trans rfl; have hfz6_0 := blk_frozen BK309.out 0; have hfz6_1 := blk_frozen BK309.out 1; have hfz6_2 := blk_frozen BK309.out 2) | ((with_reducible refine gate_callee (f := 43) rfl ?_); refine goesL_ (some 4) rfl rfl Tryd.func43 (by kernel_rfl) rfl #[.agg #[.int .i64 a0_0, .slice A0_1 l0_1.length c0_1, .slice A0_2 l0_2.length c0_2]] rfl (by (try simp only [List.map_toArray, List.map_cons, List.map_nil]); first | done | rfl | (simp only [List.length_drop, List.length_take]; rfl)) ?_; (with_reducible refine (regex_May.calls a0_0 _ _ l0_1 _ _ l0_2 true _ ?side1 ?side2 ?side3 ?side4 A2.out).mono ?_); (case side1 => repeat (first | exact (Kd.C_below HR0_1.out HB.out) | (with_reducible refine Kd.C_alloc ?_ _) | (with_reducible refine Kd.C_drewN ?_ _) | (with_reducible refine Kd.C_drew ?_))); (case side2 => exact HC0_1.out); (case side3 => repeat (first | exact (Kd.C_below HR0_2.out HB.out) | (with_reducible refine Kd.C_alloc ?_ _) | (with_reducible refine Kd.C_drewN ?_ _) | (with_reducible refine Kd.C_drew ?_))); (case side4 => exact HC0_2.out); rintro e w7 ⟨rfl, hb⟩; refine ⟨_, rfl, ?_⟩; have n0_ := Aside0.mk (blk_below (g := gb309) (o := .cells #[.int .i64 a0_0, .slice A0_1 l0_1.length c0_1, .slice A0_2 l0_2.length c0_2] 48 (0, 0)) (by (with_reducible repeat (first | refine blk_drewN ?_ _ | refine blk_drew ?_ | refine blk_alloc ?_ _)); exact BK309.out) hb); have n1_ := Aside0.mk (below_step (by repeat (first | (with_reducible first | exact HB.out | apply below_alloc | apply pw_below_drewN | apply below_drew1 | refine below_set ?_ GE309.out) | exact HB.out)) hb); clear BK309; clear HB; have BK309 := n0_; have HB := n1_; clear n0_ n1_; (try clear hb); (try clear hb2); (try clear hk); (try clear hi); have hcz8_0 : w7.cell? ⟨gb309, 0, none⟩ = some (.int .i64 a0_0) := (blk_cell BK309.out 0).trans rfl; have hcz8_1 : w7.cell? ⟨gb309, 1, none⟩ = some (.slice A0_1 l0_1.length c0_1) := (blk_cell BK309.out 1).trans rfl; have hcz8_2 : w7.cell? ⟨gb309, 2, none⟩ = some (.slice A0_2 l0_2.length c0_2) := (blk_cell BK309.out 2).trans rfl; have hfz8_0 := blk_frozen BK309.out 0; have hfz8_1 := blk_frozen BK309.out 1; have hfz8_2 := blk_frozen BK309.out 2) | (go_at_call 54; (with_reducible refine (regex_empty.calls k a0_0 _ _ l0_1 _ _ l0_2 t311 _ ?side1 ?side2 ?side3 ?side4 A4.out).mono ?_); (case side1 => repeat (first | exact (Kd.C_below HR0_1.out HB.out) | (with_reducible refine Kd.C_alloc ?_ _) | (with_reducible refine Kd.C_drewN ?_ _) | (with_reducible refine Kd.C_drew ?_))); (case side2 => exact HC0_1.out); (case side3 => repeat (first | exact (Kd.C_below HR0_2.out HB.out) | (with_reducible refine Kd.C_alloc ?_ _) | (with_reducible refine Kd.C_drewN ?_ _) | (with_reducible refine Kd.C_drew ?_))); (case side4 => exact HC0_2.out); rintro e w9 ⟨rfl, hb⟩; have n0_ := Aside0.mk (blk_below (g := gb309) (o := .cells #[.int .i64 a0_0, .slice A0_1 l0_1.length c0_1, .slice A0_2 l0_2.length c0_2] 48 (0, 0)) (by (with_reducible repeat (first | refine blk_drewN ?_ _ | refine blk_drew ?_ | refine blk_alloc ?_ _)); exact BK309.out) hb); have n1_ := Aside0.mk (below_step (by repeat (first | (with_reducible first | exact HB.out | apply below_alloc | apply pw_below_drewN | apply below_drew1 | refine below_set ?_ GE309.out) | exact HB.out)) hb); clear BK309; clear HB; have BK309 := n0_; have HB := n1_; clear n0_ n1_; (try clear hb); (try clear hb2); (try clear hk); (try clear hi)))
    go_ret
    exact ⟨by first | rfl | (simp [errW_none, errW_some] <;> rfl) | (simp [*, errW_none, errW_some] <;> rfl), by repeat (first | (with_reducible first | exact HB.out | apply below_alloc | apply pw_below_drewN | apply below_drew1 | refine below_set ?_ GE309.out) | exact HB.out)⟩
  · replace c3 := Bool.eq_false_iff.mpr c3
    subst c3
    have H1 : (some false) = some r := by rw [if_neg (show ¬ (false = true) by decide)] at H; exact H
    clear H
    have H := H1
    clear H1
    obtain rfl := Option.some.inj H
    go_enter Tryd.func44, Tryd.ntmps44
    go_wp2_with (first | ((with_reducible refine gate_dst (N := 1) rfl ?_); refine box_event ?hg (N := 1) ?hd (cs := #[.int .i64 a0_0, .slice A0_1 l0_1.length c0_1, .slice A0_2 l0_2.length c0_2]) (t := 48) ?hr ?_; (case hd => rfl); (case hg => rfl); (case hr => first | (go_simp; done) | (go_simp; rfl)); intro gb309 hg w10 hbox hb; have n0_ := Aside0.mk (below_step (by repeat (first | (with_reducible first | exact HB.out | apply below_alloc | apply pw_below_drewN | apply below_drew1) | exact HB.out)) hb); have n1_ := Aside0.mk (hbox); have n2_ := Aside0.mk ((by rw [hg]; exact (below_size (by repeat (first | (with_reducible first | exact HB.out | apply below_alloc | apply pw_below_drewN | apply below_drew1) | exact HB.out))) : w.heap.size ≤ gb309)); have n3_ := Aside0.mk ((by rw [hg]; exact (below_size (by repeat (first | (with_reducible first | exact HB.out | apply below_alloc | apply pw_below_drewN | apply below_drew1) | exact HB.out))) : w.heap.size ≤ gb309)); clear HB; have HB := n0_; have BK309 := n1_; have GW309 := n2_; have GE309 := n3_; clear n0_ n1_ n2_ n3_; clear hb hbox hg; have hcz11_0 : w10.cell? ⟨gb309, 0, none⟩ = some (.int .i64 a0_0) := (blk_cell BK309.out 0).trans rfl; have hcz11_1 : w10.cell? ⟨gb309, 1, none⟩ = some (.slice A0_1 l0_1.length c0_1) := (blk_cell BK309.out 1).trans rfl; have hcz11_2 : w10.cell? ⟨gb309, 2, none⟩ = some (.slice A0_2 l0_2.length c0_2) := (blk_cell BK309.out 2).trans rfl; have hfz11_0 := blk_frozen BK309.out 0; have hfz11_1 := blk_frozen BK309.out 1; have hfz11_2 := blk_frozen BK309.out 2) | ((with_reducible refine gate_callee (f := 43) rfl ?_); refine goesL_ (some 4) rfl rfl Tryd.func43 (by kernel_rfl) rfl #[.agg #[.int .i64 a0_0, .slice A0_1 l0_1.length c0_1, .slice A0_2 l0_2.length c0_2]] rfl (by (try simp only [List.map_toArray, List.map_cons, List.map_nil]); first | done | rfl | (simp only [List.length_drop, List.length_take]; rfl)) ?_; (with_reducible refine (regex_May.calls a0_0 _ _ l0_1 _ _ l0_2 false _ ?side1 ?side2 ?side3 ?side4 A2.out).mono ?_); (case side1 => repeat (first | exact (Kd.C_below HR0_1.out HB.out) | (with_reducible refine Kd.C_alloc ?_ _) | (with_reducible refine Kd.C_drewN ?_ _) | (with_reducible refine Kd.C_drew ?_))); (case side2 => exact HC0_1.out); (case side3 => repeat (first | exact (Kd.C_below HR0_2.out HB.out) | (with_reducible refine Kd.C_alloc ?_ _) | (with_reducible refine Kd.C_drewN ?_ _) | (with_reducible refine Kd.C_drew ?_))); (case side4 => exact HC0_2.out); rintro e w12 ⟨rfl, hb⟩; refine ⟨_, rfl, ?_⟩; have n0_ := Aside0.mk (blk_below (g := gb309) (o := .cells #[.int .i64 a0_0, .slice A0_1 l0_1.length c0_1, .slice A0_2 l0_2.length c0_2] 48 (0, 0)) (by (with_reducible repeat (first | refine blk_drewN ?_ _ | refine blk_drew ?_ | refine blk_alloc ?_ _)); exact BK309.out) hb); have n1_ := Aside0.mk (below_step (by repeat (first | (with_reducible first | exact HB.out | apply below_alloc | apply pw_below_drewN | apply below_drew1 | refine below_set ?_ GE309.out) | exact HB.out)) hb); clear BK309; clear HB; have BK309 := n0_; have HB := n1_; clear n0_ n1_; (try clear hb); (try clear hb2); (try clear hk); (try clear hi)))
    go_ret
    exact ⟨by first | rfl | (simp [errW_none, errW_some] <;> rfl) | (simp [*, errW_none, errW_some] <;> rfl), by repeat (first | (with_reducible first | exact HB.out | apply below_alloc | apply pw_below_drewN | apply below_drew1 | refine below_set ?_ GE309.out) | exact HB.out)⟩
end Go.Proofs.YthdfmbmbjpmlaaaDoor.Rn
/- gram: the court's token. -/
set_option linter.unusedVariables false
set_option linter.unusedSimpArgs false
namespace Go.Proofs.YthdfmbmbjpmlaaaDoor.Rn
open Go Go.RowKit Go.Proofs.YthdfmbmbjpmlaaaDoorW.PrintWords Go.Proofs.YthdfmbmbjpmlaaaDoorW.PrintLast Go.Proofs.YthdfmbmbjpmlaaaDoorW.PrintMore
/-- what is wrong with a token; M, E: may its expression be, may it be of nothing -/
def tokS (M E : Tok → Bool) (T : List Tok) (t : Tok) (i : Nat) : Option Int :=
  if (nameS t.f0 && (findS T t.f0 0 == (i : Int))) = true then
    (if (t.f1 == 0 || t.f1 == 1 || t.f1 == 2) = true then
      orS (classS t.f2) (if M t = true then (if E t = false then none else some 11) else some 6)
    else some 5)
  else some 4
/-- its parts' answers are known -/
structure TokOk (M E : Tok → Bool) (t : Tok) : Prop where
  s : t.f0.size ≤ 9223372036854775807
  m : regex_May.f t.f3.f0 t.f3.f1 t.f3.f2 = some (M t)
  e : M t = true → ∃ k, regex_Empty.f k t.f3.f0 t.f3.f1 t.f3.f2 = some (E t)
set_option maxHeartbeats 4000000 in
set_option maxRecDepth 100000 in
theorem token_any (M E : Tok → Bool) (T : List Tok) (i : Nat) (t : Tok) (hi : T[i]? = some t) (ht : TokOk M E t) (bc : Nat) (AT : Option Addr) (ct : Nat) (AR : Option Addr) (R : List Rul) (cr : Nat) (wh : Int) (W : World) (hc : CourtAt bc AT T ct AR R cr wh W) (hT : kTok.C W AT T.length T) (hO : OwnAt W) :
    Calls Tryd.prog 30 #[.pointer (some ⟨bc, 0, none⟩), .int .i64 i] W (CourtPost wh (tokS M E T t i) W) := by
  have hlt : i < T.length := (List.getElem?_eq_some_iff.1 hi).1
  obtain ⟨g, o, rfl, hgl, hcell⟩ := row_cells hT (by omega) (by decide)
  obtain ⟨cs, _, hK, hcc⟩ := hcell i t hi
  obtain ⟨A4, c4, A5, c5, rfl, q4, C4, q5, C5⟩ := k50_open hK
  have v0 := hcc 0 (.string t.f0) rfl
  have v1 := hcc 1 (.int .i64 t.f1) rfl
  have v2 := hcc 2 (.int .i64 t.f2) rfl
  have v3 := hcc 3 (.int .i64 t.f3.f0) rfl
  have v4 := hcc 4 (.slice A4 t.f3.f1.length c4) rfl
  have v5 := hcc 5 (.slice A5 t.f3.f2.length c5) rfl
  rw [Nat.add_zero] at v0
  simp only [show kTok.sz = 6 from rfl] at v0 v1 v2 v3 v4 v5
  obtain ⟨w1, hw1⟩ : ∃ w1, W.alloc (.cells #[.string t.f0, .int .i64 t.f1, .int .i64 t.f2, .int .i64 t.f3.f0, .slice A4 t.f3.f1.length c4, .slice A5 t.f3.f2.length c5] 50) = w1 := ⟨_, rfl⟩
  have hnew : w1.heap[W.heap.size]? = some (.cells #[.string t.f0, .int .i64 t.f1, .int .i64 t.f2, .int .i64 t.f3.f0, .slice A4 t.f3.f1.length c4, .slice A5 t.f3.f2.length c5] 50 (0, 0)) := by rw [← hw1]; exact blk_new _ _
  have hB1 : Below W.heap.size W w1 := hw1 ▸ below1 W _
  have b0 : W.cell? ⟨bc, 0, none⟩ = some (.slice (some ⟨g, o, none⟩) T.length ct) := (blk_cell hc 0).trans rfl
  have hc1 := CourtAt.later hc hB1
  have qa : ∀ p : Later w1, p.wx.cell? ⟨bc, 0, none⟩ = some (.slice (some ⟨g, o, none⟩) T.length ct) := fun p => cell_after p.below ((blk_cell hc1 0).trans rfl)
  have qb : ∀ p : Later w1, p.wx.cell? ⟨bc, 1, none⟩ = some (.slice AR R.length cr) := fun p => cell_after p.below ((blk_cell hc1 1).trans rfl)
  have q0 : ∀ p : Later w1, p.wx.cell? ⟨W.heap.size, 0, none⟩ = some (.string t.f0) := fun p => cell_after p.below ((blk_cell hnew 0).trans rfl)
  have HLAT : Aside0 (Below w1.heap.size w1 w1.drew) := ⟨below_drew1 (Below.refl _ _)⟩
  have HB1 := Aside0.mk hB1
  have HN := Aside0.mk hnew
  have HC := Aside0.mk hc
  have HT := Aside0.mk hT
  have HO := Aside0.mk hO
  have HTK := Aside0.mk ht
  have HC4 := Aside0.mk (And.intro q4 C4)
  have HC5 := Aside0.mk (And.intro q5 C5)
  obtain ⟨res, hres⟩ : ∃ res, tokS M E T t i = res := ⟨_, rfl⟩
  have HR0 := Aside0.mk hres
  rw [hres]
  have hil : (i : Int) < T.length := by omega
  clear hi ht hc hT hO hcell hcc hK hnew hB1 hc1 q4 C4 q5 C5 hres hlt
  go_enter Tryd.func30, Tryd.ntmps30
  go_wp2
  clear hw1 v0 v1 v2 v3 v4 v5 b0
  have hund : undef = Value.tuple #[] := rfl
  refine wp_region_held (S := fun w' => ∃ p : Later w1, w' = p.wx) (by kernel_rfl) ?_
  change wpAnyH _ _ _ _ _ _ _ _ (World.drew _)
  ((refine takeQ (i := 0) (by rfl) (by kernel_rfl) (by kernel_rfl) (by kernel_rfl) ?_ ?_ ?_); (focus exact fun _ _ _ _ h => h); (focus exact ⟨⟨_, HLAT.out⟩, rfl⟩); intro K hK; go_simp; (with_reducible refine hK _ ?_); clear hK K)
  ((refine takeQ (i := 1) (by rfl) (by kernel_rfl) (by kernel_rfl) (by kernel_rfl) ?_ ?_ ?_); (focus exact fun _ _ _ _ h => h); (focus exact ⟨⟨_, HLAT.out⟩, rfl⟩); intro K hK; go_simp; (with_reducible refine hK _ ?_); clear hK K)
  ((refine takeQ (i := 2) (by rfl) (by kernel_rfl) (by kernel_rfl) (by kernel_rfl) ?_ ?_ ?_); (focus exact fun _ _ _ _ h => h); (focus exact ⟨⟨_, HLAT.out⟩, rfl⟩); intro K hK; go_simp; (with_reducible refine hK _ ?_); clear hK K)
  refine hall1 (i := 3) (by kernel_rfl) (by rfl) (fun K hK => ?_)
  go_simp
  refine (name_any t.f0 HTK.out.s _ (Kd.C_below HO.out (join_below HB1.out HLAT.out))).mono ?_
  rintro e u1 ⟨rfl, hd⟩
  have HU1 : Aside0 (Below w1.heap.size w1 u1) := ⟨join_below HLAT.out hd⟩
  clear hd
  refine hK _ _ ⟨⟨_, HU1.out⟩, rfl⟩ ?_
  clear hK K
  have hR := HR0.out
  unfold tokS at hR
  obtain ⟨bn, hbn⟩ : ∃ b, nameS t.f0 = b := ⟨_, rfl⟩
  rw [hbn] at hR
  rw [hbn]
  have HR1 := Aside0.mk hR
  clear hR HR0 hbn
  cases bn
  · have HRN : Aside0 (res = some 4) := ⟨HR1.out.symm⟩
    clear HR1
    ((refine takeQ (i := 4) (by rfl) (by kernel_rfl) (by kernel_rfl) (by kernel_rfl) ?_ ?_ ?_); (focus exact fun _ _ _ _ h => h); (focus exact ⟨⟨_, HU1.out⟩, rfl⟩); intro K hK; go_simp; (with_reducible refine hK _ ?_); clear hK K)
    ((refine takeQ (i := 5) (by rfl) (by kernel_rfl) (by kernel_rfl) (by kernel_rfl) ?_ ?_ ?_); (focus exact fun _ _ _ _ h => h); (focus exact ⟨⟨_, HU1.out⟩, rfl⟩); intro K hK; go_simp; (with_reducible refine hK _ ?_); clear hK K)
    ((refine takeQ (i := 6) (by rfl) (by kernel_rfl) (by kernel_rfl) (by kernel_rfl) ?_ ?_ ?_); (focus exact fun _ _ _ _ h => h); (focus exact ⟨⟨_, HU1.out⟩, rfl⟩); intro K hK; go_simp; (with_reducible refine hK _ ?_); clear hK K)
    ((refine takeQ (i := 7) (by rfl) (by kernel_rfl) (by kernel_rfl) (by kernel_rfl) ?_ ?_ ?_); (focus exact fun _ _ _ _ h => h); (focus exact ⟨⟨_, HU1.out⟩, rfl⟩); intro K hK; go_simp; (with_reducible refine hK _ ?_); clear hK K)
    ((refine takeQ (i := 8) (by rfl) (by kernel_rfl) (by kernel_rfl) (by kernel_rfl) ?_ ?_ ?_); (focus exact fun _ _ _ _ h => h); (focus exact ⟨⟨_, HU1.out⟩, rfl⟩); intro K hK; go_simp; (with_reducible refine hK _ ?_); clear hK K)
    ((refine takeQ (i := 9) (by rfl) (by kernel_rfl) (by kernel_rfl) (by kernel_rfl) ?_ ?_ ?_); (focus exact fun _ _ _ _ h => h); (focus exact ⟨⟨_, HU1.out⟩, rfl⟩); intro K hK; go_simp; (with_reducible refine hK _ ?_); clear hK K)
    ((refine takeQ (i := 10) (by rfl) (by kernel_rfl) (by kernel_rfl) (by kernel_rfl) ?_ ?_ ?_); (focus exact fun _ _ _ _ h => h); (focus exact ⟨⟨_, HU1.out⟩, rfl⟩); intro K hK; go_simp; (with_reducible refine hK _ ?_); clear hK K)
    ((refine takeQ (i := 11) (by rfl) (by kernel_rfl) (by kernel_rfl) (by kernel_rfl) ?_ ?_ ?_); (focus exact fun _ _ _ _ h => h); (focus exact ⟨⟨_, HU1.out⟩, rfl⟩); intro K hK; go_simp; (with_reducible refine hK _ ?_); clear hK K)
    ((refine takeQ (i := 12) (by rfl) (by kernel_rfl) (by kernel_rfl) (by kernel_rfl) ?_ ?_ ?_); (focus exact fun _ _ _ _ h => h); (focus exact ⟨⟨_, HU1.out⟩, rfl⟩); intro K hK; go_simp; (with_reducible refine hK _ ?_); clear hK K)
    ((refine takeQ (i := 13) (by rfl) (by kernel_rfl) (by kernel_rfl) (by kernel_rfl) ?_ ?_ ?_); (focus exact fun _ _ _ _ h => h); (focus exact ⟨⟨_, HU1.out⟩, rfl⟩); intro K hK; go_simp; (with_reducible refine hK _ ?_); clear hK K)
    ((refine takeQ (i := 14) (by rfl) (by kernel_rfl) (by kernel_rfl) (by kernel_rfl) ?_ ?_ ?_); (focus exact fun _ _ _ _ h => h); (focus exact ⟨⟨_, HU1.out⟩, rfl⟩); intro K hK; go_simp; (with_reducible refine hK _ ?_); clear hK K)
    refine hall1 (i := 15) (by kernel_rfl) (by rfl) (fun K hK => ?_)
    go_simp
    refine (must_no 4 (CourtAt.later HC.out (join_below HB1.out HU1.out))).mono ?_
    rintro e u2 ⟨rfl, hd⟩
    have HU2 : Aside0 (Below w1.heap.size w1 u2) := ⟨join_below HU1.out hd⟩
    clear hd hK
    go_wp2
    exact ⟨rfl, by rw [HRN.out]; exact CourtPost.bad (join_below HB1.out HU2.out)⟩
  · have HR2 : Aside0 ((if (findS T t.f0 0 == (i : Int)) = true then
        if (t.f1 == 0 || t.f1 == 1 || t.f1 == 2) = true then
          orS (classS t.f2) (if M t = true then if E t = false then none else some 11 else some 6)
        else some 5
      else some 4) = res) := ⟨HR1.out⟩
    clear HR1
    ((refine takeQ (i := 4) (by rfl) (by kernel_rfl) (by kernel_rfl) (by kernel_rfl) ?_ ?_ ?_); (focus exact fun _ _ _ _ h => h); (focus exact ⟨⟨_, HU1.out⟩, rfl⟩); intro K hK; go_simp; (with_reducible refine hK _ ?_); clear hK K)
    ((refine takeQ (i := 5) (by rfl) (by kernel_rfl) (by kernel_rfl) (by kernel_rfl) ?_ ?_ ?_); (focus exact fun _ _ _ _ h => h); (focus exact ⟨⟨_, HU1.out⟩, rfl⟩); intro K hK; go_simp; (with_reducible refine hK _ ?_); clear hK K)
    ((refine takeQ (i := 6) (by rfl) (by kernel_rfl) (by kernel_rfl) (by kernel_rfl) ?_ ?_ ?_); (focus exact fun _ _ _ _ h => h); (focus exact ⟨⟨_, HU1.out⟩, rfl⟩); intro K hK; go_simp; (with_reducible refine hK _ ?_); clear hK K)
    ((refine takeQ (i := 7) (by rfl) (by kernel_rfl) (by kernel_rfl) (by kernel_rfl) ?_ ?_ ?_); (focus exact fun _ _ _ _ h => h); (focus exact ⟨⟨_, HU1.out⟩, rfl⟩); intro K hK; go_simp; (with_reducible refine hK _ ?_); clear hK K)
    ((refine takeQ (i := 8) (by rfl) (by kernel_rfl) (by kernel_rfl) (by kernel_rfl) ?_ ?_ ?_); (focus exact fun _ _ _ _ h => h); (focus exact ⟨⟨_, HU1.out⟩, rfl⟩); intro K hK; go_simp; (with_reducible refine hK _ ?_); clear hK K)
    ((refine takeQ (i := 9) (by rfl) (by kernel_rfl) (by kernel_rfl) (by kernel_rfl) ?_ ?_ ?_); (focus exact fun _ _ _ _ h => h); (focus exact ⟨⟨_, HU1.out⟩, rfl⟩); intro K hK; go_simp; (with_reducible refine hK _ ?_); clear hK K)
    ((refine takeQ (i := 10) (by rfl) (by kernel_rfl) (by kernel_rfl) (by kernel_rfl) ?_ ?_ ?_); (focus exact fun _ _ _ _ h => h); (focus exact ⟨⟨_, HU1.out⟩, rfl⟩); intro K hK; go_simp; (with_reducible refine hK _ ?_); clear hK K)
    ((refine takeQ (i := 12) (by rfl) (by kernel_rfl) (by kernel_rfl) (by kernel_rfl) ?_ ?_ ?_); (focus exact fun _ _ _ _ h => h); (focus exact ⟨⟨_, HU1.out⟩, rfl⟩); intro K hK; go_simp; (with_reducible refine hK _ ?_); clear hK K)
    refine hall1 (i := 11) (by kernel_rfl) (by rfl) (fun K hK => ?_)
    go_simp
    refine (find_any T _ AR ct cr R.length t.f0 _ (Kd.C_below HT.out (join_below HB1.out HU1.out))).mono ?_
    rintro e u2 ⟨rfl, hd⟩
    have HU2 : Aside0 (Below w1.heap.size w1 u2) := ⟨join_below HU1.out hd⟩
    clear hd
    refine hK _ _ ⟨⟨_, HU2.out⟩, rfl⟩ ?_
    clear hK K HU1
    obtain ⟨bf, hbf⟩ : ∃ b, (findS T t.f0 0 == (i : Int)) = b := ⟨_, rfl⟩
    have hR := HR2.out
    rw [hbf] at hR
    have HR3 := Aside0.mk hR
    clear hR HR2
    generalize findS T t.f0 0 = fi at hbf
    ((refine takeQ (i := 13) (by rfl) (by kernel_rfl) (by kernel_rfl) (by kernel_rfl) ?_ ?_ ?_); (focus exact fun _ _ _ _ h => h); (focus exact ⟨⟨_, HU2.out⟩, rfl⟩); intro K hK; go_simp; (with_reducible refine hK _ ?_); clear hK K)
    ((refine takeQ (i := 14) (by rfl) (by kernel_rfl) (by kernel_rfl) (by kernel_rfl) ?_ ?_ ?_); (focus exact fun _ _ _ _ h => h); (focus exact ⟨⟨_, HU2.out⟩, rfl⟩); intro K hK; go_simp; (with_reducible refine hK _ ?_); clear hK K)
    cases bf
    · have HRN : Aside0 (res = some 4) := ⟨HR3.out.symm⟩
      clear HR3
      refine hall1 (i := 15) (by kernel_rfl) (by rfl) (fun K hK => ?_)
      go_simp
      refine (must_no 4 (CourtAt.later HC.out (join_below HB1.out HU2.out))).mono ?_
      rintro e u3 ⟨rfl, hd⟩
      have HU3 : Aside0 (Below w1.heap.size w1 u3) := ⟨join_below HU2.out hd⟩
      clear hd hK
      go_wp2
      exact ⟨rfl, by rw [HRN.out]; exact CourtPost.bad (join_below HB1.out HU3.out)⟩
    · have HR4 : Aside0 ((if (t.f1 == 0 || t.f1 == 1 || t.f1 == 2) = true then
          orS (classS t.f2) (if M t = true then if E t = false then none else some 11 else some 6)
        else some 5) = res) := ⟨HR3.out⟩
      clear HR3
      refine hall1 (i := 15) (by kernel_rfl) (by rfl) (fun K hK => ?_)
      go_simp
      refine (must_yes 4 (CourtAt.later HC.out (join_below HB1.out HU2.out))).mono ?_
      rintro e u3 ⟨rfl, hd⟩
      have HU3 : Aside0 (Below w1.heap.size w1 u3) := ⟨join_below HU2.out hd⟩
      clear hd
      refine hK _ _ ⟨⟨_, HU3.out⟩, rfl⟩ ?_
      clear hK K HU2
      refine wpAnyH_done (by kernel_rfl) ?_ _
      clear q0 qa qb hbf
      have hR := HR4.out
      clear HR4 hil
      have y1 : u3.cell? ⟨W.heap.size, 1, none⟩ = some (.int .i64 t.f1) := (blk_cell (blk_below HN.out HU3.out) 1).trans rfl
      have hk : (t.f1 == 0) = true ∨ ((t.f1 == 0) = false ∧ (t.f1 == 1) = true) ∨ ((t.f1 == 0) = false ∧ (t.f1 == 1) = false ∧ (t.f1 == 2) = true) ∨ ((t.f1 == 0) = false ∧ (t.f1 == 1) = false ∧ (t.f1 == 2) = false) := by
        cases (t.f1 == 0) <;> cases (t.f1 == 1) <;> cases (t.f1 == 2) <;> simp
      rcases hk with e1 | ⟨e1, e2⟩ | ⟨e1, e2, e3⟩ | ⟨e1, e2, e3⟩
      case inr.inr.inr =>
        rw [e1, e2, e3] at hR
        have HRN : Aside0 (res = some 5) := ⟨hR.symm⟩
        clear hR
        go_wp2_with fail
        refine (must_no 5 (CourtAt.later HC.out (join_below HB1.out HU3.out))).mono ?_
        rintro e u4 ⟨rfl, hd⟩
        have HU4 : Aside0 (Below w1.heap.size w1 u4) := ⟨join_below HU3.out hd⟩
        clear hd y1
        go_wp2
        exact ⟨rfl, by rw [HRN.out]; exact CourtPost.bad (join_below HB1.out HU4.out)⟩
      all_goals
        have HR5 : Aside0 (orS (classS t.f2) (if M t = true then if E t = false then none else some 11 else some 6) = res) := by
          refine ⟨?_⟩
          first | rw [e1, e2, e3] at hR | rw [e1, e2] at hR | rw [e1] at hR
          exact hR
        clear hR
        go_wp2_with fail
        refine (must_yes 5 (CourtAt.later HC.out (join_below HB1.out HU3.out))).mono ?_
        rintro e u4 ⟨rfl, hd⟩
        have HU4 : Aside0 (Below w1.heap.size w1 u4) := ⟨join_below HU3.out hd⟩
        clear hd y1 e1
        try clear e2
        try clear e3
        have y2 : u4.cell? ⟨W.heap.size, 2, none⟩ = some (.int .i64 t.f2) := (blk_cell (blk_below HN.out HU4.out) 2).trans rfl
        go_wp2_with fail
        refine (class_any bc _ T ct AR R cr wh t.f2 _ (CourtAt.later HC.out (join_below HB1.out HU4.out))).mono ?_
        rintro e u5 ⟨hd, he⟩
        have HU5 : Aside0 (Below w1.heap.size w1 u5) := ⟨join_below HU4.out hd⟩
        clear hd y2
        have hR := HR5.out
        clear HR5
        generalize classS t.f2 = r1 at he hR
        cases r1 with
        | some c =>
          have he' : e = .panicked [{ v := faultV c wh, recovered := false }] := he
          subst he'
          have HRN : Aside0 (res = some c) := ⟨hR.symm⟩
          clear he hR
          go_wp2
          exact ⟨rfl, by rw [HRN.out]; exact CourtPost.bad (join_below HB1.out HU5.out)⟩
        | none =>
          have he' : e = .returned (.tuple #[]) := he
          subst he'
          have HR6 : Aside0 ((if M t = true then if E t = false then none else some 11 else some 6) = res) := ⟨hR⟩
          clear he hR
          have hnew := blk_below HN.out HU5.out
          have y3 : u5.cell? ⟨W.heap.size, 3, none⟩ = some (.int .i64 t.f3.f0) := (blk_cell hnew 3).trans rfl
          have y4 : u5.cell? ⟨W.heap.size, 4, none⟩ = some (.slice A4 t.f3.f1.length c4) := (blk_cell hnew 4).trans rfl
          have y5 : u5.cell? ⟨W.heap.size, 5, none⟩ = some (.slice A5 t.f3.f2.length c5) := (blk_cell hnew 5).trans rfl
          clear hnew
          go_wp2_with fail
          refine (regex_May.calls t.f3.f0 A4 c4 t.f3.f1 A5 c5 t.f3.f2 (M t) _ (Kd.C_below HC4.out.2 (join_below HB1.out HU5.out)) HC4.out.1 (Kd.C_below HC5.out.2 (join_below HB1.out HU5.out)) HC5.out.1 HTK.out.m).mono ?_
          rintro e u6 ⟨rfl, hd⟩
          have HU6 : Aside0 (Below w1.heap.size w1 u6) := ⟨join_below HU5.out hd⟩
          clear hd y3 y4 y5
          have hR := HR6.out
          clear HR6
          obtain ⟨bm, hbm⟩ : ∃ b, M t = b := ⟨_, rfl⟩
          rw [hbm] at hR
          rw [hbm]
          have HM := Aside0.mk hbm
          clear hbm
          cases bm
          · have HRN : Aside0 (res = some 6) := ⟨hR.symm⟩
            clear hR
            go_wp2_with fail
            refine (must_no 6 (CourtAt.later HC.out (join_below HB1.out HU6.out))).mono ?_
            rintro e u7 ⟨rfl, hd⟩
            have HU7 : Aside0 (Below w1.heap.size w1 u7) := ⟨join_below HU6.out hd⟩
            clear hd
            go_wp2
            exact ⟨rfl, by rw [HRN.out]; exact CourtPost.bad (join_below HB1.out HU7.out)⟩
          · have HR7 : Aside0 ((if E t = false then none else some 11) = res) := ⟨hR⟩
            clear hR
            go_wp2_with fail
            refine (must_yes 6 (CourtAt.later HC.out (join_below HB1.out HU6.out))).mono ?_
            rintro e u7 ⟨rfl, hd⟩
            have HU7 : Aside0 (Below w1.heap.size w1 u7) := ⟨join_below HU6.out hd⟩
            clear hd
            obtain ⟨ke, hke⟩ := HTK.out.e HM.out
            have HKE := Aside0.mk hke
            have hnew := blk_below HN.out HU7.out
            have y3 : u7.cell? ⟨W.heap.size, 3, none⟩ = some (.int .i64 t.f3.f0) := (blk_cell hnew 3).trans rfl
            have y4 : u7.cell? ⟨W.heap.size, 4, none⟩ = some (.slice A4 t.f3.f1.length c4) := (blk_cell hnew 4).trans rfl
            have y5 : u7.cell? ⟨W.heap.size, 5, none⟩ = some (.slice A5 t.f3.f2.length c5) := (blk_cell hnew 5).trans rfl
            clear hnew hke
            go_wp2_with fail
            refine (regex_Empty.calls ke t.f3.f0 A4 c4 t.f3.f1 A5 c5 t.f3.f2 (E t) _ (Kd.C_below HC4.out.2 (join_below HB1.out HU7.out)) HC4.out.1 (Kd.C_below HC5.out.2 (join_below HB1.out HU7.out)) HC5.out.1 HKE.out).mono ?_
            rintro e u8 ⟨rfl, hd⟩
            have HU8 : Aside0 (Below w1.heap.size w1 u8) := ⟨join_below HU7.out hd⟩
            clear hd y3 y4 y5
            have hR := HR7.out
            clear HR7
            generalize E t = be at hR
            cases be
            · have HRN : Aside0 (res = none) := ⟨hR.symm⟩
              clear hR
              go_wp2_with fail
              refine (must_yes 11 (CourtAt.later HC.out (join_below HB1.out HU8.out))).mono ?_
              rintro e u9 ⟨rfl, hd⟩
              have HU9 : Aside0 (Below w1.heap.size w1 u9) := ⟨join_below HU8.out hd⟩
              clear hd
              go_wp2
              first | go_end0 | refine bodyPost_ret (results_none rfl _ _ _) rfl ?_
              rw [HRN.out]
              exact CourtPost.ok (join_below HB1.out HU9.out)
            · have HRN : Aside0 (res = some 11) := ⟨hR.symm⟩
              clear hR
              go_wp2_with fail
              refine (must_no 11 (CourtAt.later HC.out (join_below HB1.out HU8.out))).mono ?_
              rintro e u9 ⟨rfl, hd⟩
              have HU9 : Aside0 (Below w1.heap.size w1 u9) := ⟨join_below HU8.out hd⟩
              clear hd
              go_wp2
              exact ⟨rfl, by rw [HRN.out]; exact CourtPost.bad (join_below HB1.out HU9.out)⟩
end Go.Proofs.YthdfmbmbjpmlaaaDoor.Rn
/- gram: the court's pattern and rule. -/
set_option linter.unusedVariables false
set_option linter.unusedSimpArgs false
namespace Go.Proofs.YthdfmbmbjpmlaaaDoor.Rn
open Go Go.RowKit Go.Proofs.YthdfmbmbjpmlaaaDoorW.PrintWords Go.Proofs.YthdfmbmbjpmlaaaDoorW.PrintLast Go.Proofs.YthdfmbmbjpmlaaaDoorW.PrintMore
theorem node_all (T : List Tok) : ∀ (N : Nat) (x : Pt), SizeOf.sizeOf x < N → NodeC T x
  | 0, x, h => absurd h (Nat.not_lt_zero _)
  | N + 1, x, h => node_go T x (fun y hy => node_all T N y (by
      have h1 := List.sizeOf_lt_of_mem hy
      have h2 : SizeOf.sizeOf x.f3 < SizeOf.sizeOf x := by
        cases x
        simp
        omega
      omega))
/-- what is wrong with a pattern -/
def patS (T : List Tok) (x : Pt) : Option Int := if fewS x = true then nodeR T x else some 6
set_option maxHeartbeats 2000000 in
set_option maxRecDepth 100000 in
theorem pattern_any (T : List Tok) (x : Pt) (bc : Nat) (AT : Option Addr) (ct : Nat) (AR : Option Addr) (R : List Rul) (cr : Nat) (wh : Int) (w0 W : World) (cs : List Value) (hB : Below w0.heap.size w0 W) (hc : CourtAt bc AT T ct AR R cr wh W) (hT : kTok.C W AT T.length T) (hK : kPt.K w0 x cs) :
    Calls Tryd.prog 46 #[.pointer (some ⟨bc, 0, none⟩), .agg cs.toArray] W (CourtPost wh (patS T x) W) := by
  have HK := Aside0.mk hK
  obtain ⟨A1, p1, A2, p2, A3, p3, rfl, _, _, _, _, _, _⟩ := k37_open hK
  obtain ⟨w1, hw1⟩ : ∃ w1, W.alloc (.cells #[.int .i64 x.f0, .slice A1 x.f1.length p1, .slice A2 x.f2.length p2, .slice A3 x.f3.length p3] 37) = w1 := ⟨_, rfl⟩
  have hnew : w1.heap[W.heap.size]? = some (.cells #[.int .i64 x.f0, .slice A1 x.f1.length p1, .slice A2 x.f2.length p2, .slice A3 x.f3.length p3] 37 (0, 0)) := by rw [← hw1]; exact blk_new _ _
  have HB1 : Aside0 (Below W.heap.size W w1) := ⟨hw1 ▸ below1 W _⟩
  have z0 : w1.cell? ⟨W.heap.size, 0, none⟩ = some (.int .i64 x.f0) := (blk_cell hnew 0).trans rfl
  have z1 : w1.cell? ⟨W.heap.size, 1, none⟩ = some (.slice A1 x.f1.length p1) := (blk_cell hnew 1).trans rfl
  have z2 : w1.cell? ⟨W.heap.size, 2, none⟩ = some (.slice A2 x.f2.length p2) := (blk_cell hnew 2).trans rfl
  have z3 : w1.cell? ⟨W.heap.size, 3, none⟩ = some (.slice A3 x.f3.length p3) := (blk_cell hnew 3).trans rfl
  have HN := Aside0.mk hnew
  have HC := Aside0.mk hc
  have HT := Aside0.mk hT
  have HB : Aside0 (Below w0.heap.size w0 w1) := ⟨join_below hB HB1.out⟩
  clear hK hnew hc hT hB
  go_enter Tryd.func46, Tryd.ntmps46
  go_wp2_with fail
  refine (few_any x w0 _ _ HB.out HK.out).mono ?_
  rintro e w2 ⟨rfl, hb⟩
  have HB2 := Aside0.mk (join_below HB1.out hb)
  have HW2 := Aside0.mk (join_below HB.out hb)
  have HN2 := Aside0.mk (blk_below HN.out hb)
  clear hb z0 z1 z2 z3 hw1
  obtain ⟨b, hb⟩ : ∃ b, fewS x = b := ⟨_, rfl⟩
  rw [hb]
  have HF := Aside0.mk hb
  clear hb
  cases b
  · go_wp2_with fail
    refine (must_no 6 (CourtAt.later HC.out HB2.out)).mono ?_
    rintro e w3 ⟨rfl, hb⟩
    have HB3 := Aside0.mk (join_below HB2.out hb)
    clear hb
    go_wp2
    exact ⟨rfl, by rw [patS, if_neg (by rw [HF.out]; decide)]; exact CourtPost.bad HB3.out⟩
  · go_wp2_with fail
    refine (must_yes 6 (CourtAt.later HC.out HB2.out)).mono ?_
    rintro e w3 ⟨rfl, hb⟩
    have HB3 := Aside0.mk (join_below HB2.out hb)
    have HW3 := Aside0.mk (join_below HW2.out hb)
    have hnew := blk_below HN2.out hb
    have z0 : w3.cell? ⟨W.heap.size, 0, none⟩ = some (.int .i64 x.f0) := (blk_cell hnew 0).trans rfl
    have z1 : w3.cell? ⟨W.heap.size, 1, none⟩ = some (.slice A1 x.f1.length p1) := (blk_cell hnew 1).trans rfl
    have z2 : w3.cell? ⟨W.heap.size, 2, none⟩ = some (.slice A2 x.f2.length p2) := (blk_cell hnew 2).trans rfl
    have z3 : w3.cell? ⟨W.heap.size, 3, none⟩ = some (.slice A3 x.f3.length p3) := (blk_cell hnew 3).trans rfl
    clear hb hnew HB2 HW2 HN2
    go_wp2_with fail
    refine (node_all T _ x (Nat.lt_succ_self _) bc AT ct AR R cr wh w0 _ _ HW3.out (CourtAt.later HC.out HB3.out) (Kd.C_below HT.out HB3.out) HK.out).mono ?_
    rintro e w4 ⟨hb, he⟩
    have HB4 := Aside0.mk (join_below HB3.out hb)
    clear hb z0 z1 z2 z3
    have HP : Aside0 (patS T x = nodeR T x) := ⟨by rw [patS, if_pos HF.out]⟩
    obtain ⟨r, hr⟩ : ∃ r, nodeR T x = r := ⟨_, rfl⟩
    rw [hr] at he
    have HR : Aside0 (patS T x = r) := ⟨by rw [HP.out, hr]⟩
    clear hr HP HF
    cases r with
    | some c =>
      have he' : e = .panicked [{ v := faultV c wh, recovered := false }] := he
      subst he'
      clear he
      go_wp2
      exact ⟨rfl, by rw [HR.out]; exact CourtPost.bad HB4.out⟩
    | none =>
      have he' : e = .returned (.tuple #[]) := he
      subst he'
      clear he
      go_wp2
      first | go_end0 | refine bodyPost_ret (results_none rfl _ _ _) rfl ?_
      rw [HR.out]
      exact CourtPost.ok HB4.out
abbrev Stp := S39
abbrev kStp := k39
/-- what is wrong with a rule's steps, of the i-th on -/
def stepsS (T : List Tok) (free : Bool) : Nat → List Stp → Option Int
  | _, [] => none
  | i, s :: l => if (decide (0 < s.f0.length) == (decide (0 < i) || free)) = true then orS (namesS T 1 [] s.f0) (orS (patS T s.f1) (stepsS T free (i + 1) l)) else some 5
/-- what is wrong with a rule -/
def ruleS (T : List Tok) (x : Rul) : Option Int := orS (classS x.f0) (if 1 ≤ x.f2.length ∧ x.f2.length ≤ 4 then stepsS T x.f1 0 x.f2 else some 6)
theorem orS_none (a : Option Int) : orS none a = a := rfl
set_option maxHeartbeats 4000000 in
set_option maxRecDepth 100000 in
theorem rule_any (T : List Tok) (x : Rul) (bc : Nat) (AT : Option Addr) (ct : Nat) (AR : Option Addr) (R : List Rul) (cr : Nat) (wh : Int) (w0 W : World) (cs : List Value) (hB : Below w0.heap.size w0 W) (hc : CourtAt bc AT T ct AR R cr wh W) (hT : kTok.C W AT T.length T) (hK : kRul.K w0 x cs) :
    Calls Tryd.prog 31 #[.pointer (some ⟨bc, 0, none⟩), .agg cs.toArray] W (CourtPost wh (ruleS T x) W) := by
  obtain ⟨A2, p2, rfl, _, hC2⟩ := k32_open hK
  have hlen : x.f2.length ≤ 9223372036854775807 := hC2.2.1
  obtain ⟨w1, hw1⟩ : ∃ w1, W.alloc (.cells #[.int .i64 x.f0, .bool x.f1, .slice A2 x.f2.length p2] 32) = w1 := ⟨_, rfl⟩
  have hnew : w1.heap[W.heap.size]? = some (.cells #[.int .i64 x.f0, .bool x.f1, .slice A2 x.f2.length p2] 32 (0, 0)) := by rw [← hw1]; exact blk_new _ _
  have HB1 : Aside0 (Below W.heap.size W w1) := ⟨hw1 ▸ below1 W _⟩
  have z0 : w1.cell? ⟨W.heap.size, 0, none⟩ = some (.int .i64 x.f0) := (blk_cell hnew 0).trans rfl
  have HN := Aside0.mk hnew
  have HC := Aside0.mk hc
  have HT := Aside0.mk hT
  have HW : Aside0 (Below w0.heap.size w0 w1) := ⟨join_below hB HB1.out⟩
  have HS := Aside0.mk hC2
  obtain ⟨res, hres⟩ : ∃ res, ruleS T x = res := ⟨_, rfl⟩
  have HR0 := Aside0.mk (show orS (classS x.f0) (if 1 ≤ x.f2.length ∧ x.f2.length ≤ 4 then stepsS T x.f1 0 x.f2 else some 6) = res from hres)
  rw [hres]
  clear hK hnew hc hT hB hC2 hres
  go_enter Tryd.func31, Tryd.ntmps31
  go_wp2_with fail
  refine (class_any bc AT T ct AR R cr wh x.f0 _ (CourtAt.later HC.out HB1.out)).mono ?_
  rintro e w2 ⟨hb, he⟩
  have HB2 := Aside0.mk (show Below w1.heap.size w1 w2 from hb)
  clear hb z0 hw1
  have hR := HR0.out
  generalize classS x.f0 = r0 at he hR
  have HR := Aside0.mk hR
  clear hR HR0
  cases r0 with
  | some c =>
    have he' : e = .panicked [{ v := faultV c wh, recovered := false }] := he
    subst he'
    clear he
    go_wp2
    exact ⟨rfl, by rw [← HR.out]; exact CourtPost.bad (join_below HB1.out HB2.out)⟩
  | none =>
    have he' : e = .returned (.tuple #[]) := he
    subst he'
    clear he
    have HR1 := Aside0.mk (show (if 1 ≤ x.f2.length ∧ x.f2.length ≤ 4 then stepsS T x.f1 0 x.f2 else some 6) = res from HR.out)
    clear HR
    have z2 : w2.cell? ⟨W.heap.size, 2, none⟩ = some (.slice A2 x.f2.length p2) := (blk_cell (blk_below HN.out HB2.out) 2).trans rfl
    by_cases c1 : 1 ≤ x.f2.length ∧ x.f2.length ≤ 4
    case neg =>
      have HR2 := Aside0.mk HR1.out
      rw [if_neg c1] at HR2
      clear HR1
      have hcs : x.f2.length = 0 ∨ (1 ≤ (x.f2.length : Int) ∧ ¬ ((x.f2.length : Int) ≤ 4)) := by omega
      rcases hcs with h0 | ⟨h1, h2⟩
      · have d1 : decide (1 ≤ (x.f2.length : Int)) = false := decide_eq_false (by omega)
        clear h0 c1
        go_wp2_with fail
        refine (must_no 6 (CourtAt.later HC.out (join_below HB1.out HB2.out))).mono ?_
        rintro e w3 ⟨rfl, hb⟩
        have HB3 := Aside0.mk (join_below HB1.out (join_below HB2.out hb))
        clear hb z2
        go_wp2
        exact ⟨rfl, by rw [← HR2.out]; exact CourtPost.bad HB3.out⟩
      · have d2 : decide ((x.f2.length : Int) ≤ 4) = false := decide_eq_false h2
        clear c1
        go_wp2_with fail
        refine (must_no 6 (CourtAt.later HC.out (join_below HB1.out HB2.out))).mono ?_
        rintro e w3 ⟨rfl, hb⟩
        have HB3 := Aside0.mk (join_below HB1.out (join_below HB2.out hb))
        clear hb z2
        go_wp2
        exact ⟨rfl, by rw [← HR2.out]; exact CourtPost.bad HB3.out⟩
    case pos =>
      have HR2 := Aside0.mk HR1.out
      rw [if_pos c1] at HR2
      clear HR1
      obtain ⟨g1, g2⟩ := c1
      have h1 : 1 ≤ (x.f2.length : Int) := by omega
      have h2 : (x.f2.length : Int) ≤ 4 := by omega
      go_wp2_with fail
      refine (must_yes 6 (CourtAt.later HC.out (join_below HB1.out HB2.out))).mono ?_
      rintro e w3 ⟨rfl, hb⟩
      have HB3 := Aside0.mk (join_below HB2.out hb)
      clear hb z2 HB2
      have z2 : w3.cell? ⟨W.heap.size, 2, none⟩ = some (.slice A2 x.f2.length p2) := (blk_cell (blk_below HN.out HB3.out) 2).trans rfl
      go_wp2
      go_loopw [25] (fun i w' => ∃ k : Nat, i = .int .i64 k ∧ k ≤ x.f2.length ∧ Aside0 (stepsS T x.f1 k (x.f2.drop k) = res) ∧ Aside0 (Below w1.heap.size w1 w')) (fun i _ => x.f2.length - (intOf i).toNat)
      case atStart => exact ⟨0, rfl, Nat.zero_le _, HR2, HB3⟩
      case round =>
        clear z2
        obtain ⟨k, rfl, hkl, HI, HBI⟩ := hrel
        by_cases hlt : k < x.f2.length
        · obtain ⟨g, o, rfl, hgl, hcell⟩ := row_cells HS.out (by omega) (by decide)
          obtain ⟨y, hy⟩ : ∃ y, x.f2[k]? = some y := ⟨_, List.getElem?_eq_getElem hlt⟩
          obtain ⟨cs, _, hKy, hcc⟩ := hcell k y hy
          obtain ⟨D0, d0, D2, d2, D3, d3, D4, d4, rfl, hd0, hD0, q2, Q2, q3, Q3, q4, Q4⟩ := k39_open hKy
          have HKy := Aside0.mk (kPt.K_below (Below.refl w0.heap.size w0) (k37_mk w0 y.f1 q2 Q2 q3 Q3 q4 Q4))
          have v0 := cell_after (join_below HW.out HBI.out) (hcc 0 (.slice D0 y.f0.length d0) rfl)
          have v1 := cell_after (join_below HW.out HBI.out) (hcc 1 (.int .i64 y.f1.f0) rfl)
          have v2 := cell_after (join_below HW.out HBI.out) (hcc 2 (.slice D2 y.f1.f1.length d2) rfl)
          have v3 := cell_after (join_below HW.out HBI.out) (hcc 3 (.slice D3 y.f1.f2.length d3) rfl)
          have v4 := cell_after (join_below HW.out HBI.out) (hcc 4 (.slice D4 y.f1.f3.length d4) rfl)
          rw [Nat.add_zero] at v0
          simp only [show kStp.sz = 5 from rfl] at v0 v1 v2 v3 v4
          have hdk : x.f2.drop k = y :: x.f2.drop (k + 1) := by
            rw [List.drop_eq_getElem_cons hlt]
            rw [List.getElem?_eq_getElem hlt] at hy
            rw [Option.some.inj hy]
          have hI2 := HI.out
          rw [hdk, stepsS] at hI2
          obtain ⟨wn, hwn⟩ : ∃ wn, wr.alloc (.cells #[.slice D0 y.f0.length d0, .int .i64 y.f1.f0, .slice D2 y.f1.f1.length d2, .slice D3 y.f1.f2.length d3, .slice D4 y.f1.f3.length d4] 39) = wn := ⟨_, rfl⟩
          have hnew : wn.heap[wr.heap.size]? = some (.cells #[.slice D0 y.f0.length d0, .int .i64 y.f1.f0, .slice D2 y.f1.f1.length d2, .slice D3 y.f1.f2.length d3, .slice D4 y.f1.f3.length d4] 39 (0, 0)) := by rw [← hwn]; exact blk_new _ _
          have HBn : Aside0 (Below w1.heap.size w1 wn) := ⟨hwn ▸ below_alloc HBI.out _⟩
          have zf : wn.cell? ⟨W.heap.size, 1, none⟩ = some (.bool x.f1) := (blk_cell (blk_below HN.out HBn.out) 1).trans rfl
          have y0 : wn.cell? ⟨wr.heap.size, 0, none⟩ = some (.slice D0 y.f0.length d0) := (blk_cell hnew 0).trans rfl
          have HNn := Aside0.mk hnew
          have HD0 := Aside0.mk (And.intro hD0 hd0)
          have hcase : (0 < k ∧ (decide (0 < k) || x.f1) = true) ∨ (¬ 0 < k ∧ (decide (0 < k) || x.f1) = x.f1) := by
            by_cases c : 0 < k
            · exact .inl ⟨c, by rw [decide_eq_true c]; rfl⟩
            · exact .inr ⟨c, by rw [decide_eq_false c]; rfl⟩
          obtain ⟨q, hq⟩ : ∃ q, (decide (0 < k) || x.f1) = q := ⟨_, rfl⟩
          rw [hq] at hI2 hcase
          have HI2 := Aside0.mk hI2
          clear hcell hcc hKy hy hdk hI2 HI hnew hd0 hD0 q2 Q2 q3 Q3 q4 Q4 hq
          rcases hcase with ⟨hk0, rfl⟩ | ⟨hk0, rfl⟩
          all_goals
            go_wp2_with fail
            refine (must_any bc AT T ct AR R cr wh _ 5 _ (CourtAt.later HC.out (join_below HB1.out HBn.out))).mono ?_
            rintro e w4 ⟨hb, he⟩
            have HB4 := Aside0.mk (show Below wn.heap.size wn w4 from hb)
            clear hb v0 v1 v2 v3 v4 zf y0 hk0 hwn
            have hI3 := HI2.out
            clear HI2
            have hz2 : ∃ z : Bool, (if z = true then orS (namesS T 1 [] y.f0) (orS (patS T y.f1) (stepsS T x.f1 (k + 1) (x.f2.drop (k + 1)))) else some 5) = res ∧ e = match (if z = true then none else some 5 : Option Int) with | none => .returned (.tuple #[]) | some c => .panicked [{ v := faultV c wh, recovered := false }] := by
              refine ⟨_, hI3, ?_⟩
              rw [he]
              clear he hI3
              cases decide (0 < y.f0.length) <;> cases x.f1 <;> rfl
            clear he hI3
            obtain ⟨z, hI3, he⟩ := hz2
            have HI3 := Aside0.mk hI3
            clear hI3
            cases z with
            | false =>
              have he' : e = .panicked [{ v := faultV 5 wh, recovered := false }] := he
              subst he'
              have HQ : Aside0 (res = some 5) := ⟨HI3.out.symm⟩
              clear he
              go_wp2
              exact ⟨rfl, by rw [HQ.out]; exact CourtPost.bad (join_below HB1.out (join_below HBn.out HB4.out))⟩
            | true =>
              have he' : e = .returned (.tuple #[]) := he
              subst he'
              have HQ : Aside0 (orS (namesS T 1 [] y.f0) (orS (patS T y.f1) (stepsS T x.f1 (k + 1) (x.f2.drop (k + 1)))) = res) := ⟨HI3.out⟩
              clear he HI3
              have y0 : w4.cell? ⟨wr.heap.size, 0, none⟩ = some (.slice D0 y.f0.length d0) := (blk_cell (blk_below HNn.out HB4.out) 0).trans rfl
              go_wp2_with fail
              refine (names_any bc AT T ct AR R cr wh D0 y.f0 d0 _ _ (CourtAt.later HC.out (join_below HB1.out (join_below HBn.out HB4.out))) (Kd.C_below HT.out (join_below HB1.out (join_below HBn.out HB4.out))) (Kd.C_below HD0.out.1 (join_below HW.out (join_below HBn.out HB4.out))) HD0.out.2).mono ?_
              rintro e w5 ⟨hb, he⟩
              have HB5 := Aside0.mk (join_below HB4.out hb)
              clear hb y0 HB4
              have hQ := HQ.out
              clear HQ
              generalize namesS T 1 [] y.f0 = r1 at he hQ
              have HQ := Aside0.mk hQ
              clear hQ
              cases r1 with
              | some c =>
                have he' : e = .panicked [{ v := faultV c wh, recovered := false }] := he
                subst he'
                have HQ2 : Aside0 (res = some c) := ⟨HQ.out.symm⟩
                clear he
                go_wp2
                exact ⟨rfl, by rw [HQ2.out]; exact CourtPost.bad (join_below HB1.out (join_below HBn.out HB5.out))⟩
              | none =>
                have he' : e = .returned (.tuple #[]) := he
                subst he'
                have HQ2 : Aside0 (orS (patS T y.f1) (stepsS T x.f1 (k + 1) (x.f2.drop (k + 1))) = res) := ⟨HQ.out⟩
                clear he HQ
                have hnew := blk_below HNn.out HB5.out
                have y1 : w5.cell? ⟨wr.heap.size, 1, none⟩ = some (.int .i64 y.f1.f0) := (blk_cell hnew 1).trans rfl
                have y2 : w5.cell? ⟨wr.heap.size, 2, none⟩ = some (.slice D2 y.f1.f1.length d2) := (blk_cell hnew 2).trans rfl
                have y3 : w5.cell? ⟨wr.heap.size, 3, none⟩ = some (.slice D3 y.f1.f2.length d3) := (blk_cell hnew 3).trans rfl
                have y4 : w5.cell? ⟨wr.heap.size, 4, none⟩ = some (.slice D4 y.f1.f3.length d4) := (blk_cell hnew 4).trans rfl
                clear hnew
                go_wp2_with fail
                refine (pattern_any T y.f1 bc AT ct AR R cr wh w0 _ _ (join_below HW.out (join_below HBn.out HB5.out)) (CourtAt.later HC.out (join_below HB1.out (join_below HBn.out HB5.out))) (Kd.C_below HT.out (join_below HB1.out (join_below HBn.out HB5.out))) HKy.out).mono ?_
                rintro e w6 ⟨hb, he⟩
                have HB6 := Aside0.mk (join_below HB5.out hb)
                clear hb y1 y2 y3 y4
                have hQ := HQ2.out
                clear HQ2
                generalize patS T y.f1 = r2 at he hQ
                have HQ := Aside0.mk hQ
                clear hQ
                cases r2 with
                | some c =>
                  have he' : e = .panicked [{ v := faultV c wh, recovered := false }] := he
                  subst he'
                  have HQ2 : Aside0 (res = some c) := ⟨HQ.out.symm⟩
                  clear he
                  go_wp2
                  exact ⟨rfl, by rw [HQ2.out]; exact CourtPost.bad (join_below HB1.out (join_below HBn.out HB6.out))⟩
                | none =>
                  have he' : e = .returned (.tuple #[]) := he
                  subst he'
                  have HQ2 : Aside0 (stepsS T x.f1 (k + 1) (x.f2.drop (k + 1)) = res) := ⟨HQ.out⟩
                  clear he HQ
                  go_wp2
                  go_roundw
                  case rel => exact ⟨k + 1, by go_num, by omega, HQ2, ⟨join_below HBn.out HB6.out⟩⟩
                  case measure => simp [intOf]; omega
        · have e : k = x.f2.length := by omega
          have HQ : Aside0 (res = none) := ⟨by rw [← HI.out, e, List.drop_length]; rfl⟩
          clear e
          go_wp2
          first | go_end0 | refine bodyPost_ret (results_none rfl _ _ _) rfl ?_
          rw [HQ.out]
          exact CourtPost.ok (join_below HB1.out HBI.out)
end Go.Proofs.YthdfmbmbjpmlaaaDoor.Rn
/- gram.Check's work. -/
set_option linter.unusedVariables false
set_option linter.unusedSimpArgs false
namespace Go.Proofs.YthdfmbmbjpmlaaaDoor.Rn
open Go Go.RowKit Go.Proofs.YthdfmbmbjpmlaaaDoorW.PrintWords Go.Proofs.YthdfmbmbjpmlaaaDoorW.PrintLast Go.Proofs.YthdfmbmbjpmlaaaDoorW.PrintMore
def orP (a b : Option (Int × Int)) : Option (Int × Int) := match a with | none => b | some c => some c
def toksS (M E : Tok → Bool) (T : List Tok) : Nat → List Tok → Option (Int × Int)
  | _, [] => none
  | i, t :: l => orP ((tokS M E T t i).map (fun c => (c, (i : Int)))) (toksS M E T (i + 1) l)
def rulesS (T : List Tok) : Nat → List Rul → Option (Int × Int)
  | _, [] => none
  | i, r :: l => orP ((ruleS T r).map (fun c => (c, (T.length : Int) + i))) (rulesS T (i + 1) l)
def lateS (T : List Tok) (R : List Rul) : Option (Int × Int) := if (R.length : Int) ≤ 8 then rulesS T 0 R else some (6, T.length)
/-- what is wrong first, and where -/
def checkS (M E : Tok → Bool) (T : List Tok) (R : List Rul) : Option (Int × Int) :=
  if (1 : Int) ≤ T.length ∧ (T.length : Int) ≤ 16 then orP (toksS M E T 0 T) (lateS T R) else some (6, 0)
def ChkPost (res : Option (Int × Int)) (W : World) (e : Ending) (W' : World) : Prop :=
  Below W.heap.size W W' ∧ e = match res with | none => .returned (.tuple #[]) | some p => .panicked [{ v := faultV p.1 p.2, recovered := false }]
theorem ChkPost.ok {W W' : World} (h : Below W.heap.size W W') : ChkPost none W (.returned (.tuple #[])) W' := ⟨h, rfl⟩
theorem ChkPost.bad {W W' : World} {c n : Int} (h : Below W.heap.size W W') : ChkPost (some (c, n)) W (.panicked [{ v := faultV c n, recovered := false }]) W' := ⟨h, rfl⟩
theorem grown_set (w : World) (a : Addr) (u : Value) : w.grownBy (w.setCell a u) (some a.block) :=
  ⟨rfl, rfl, rfl, (KeepsWalks.setCell w _ u).size, fun k _ hk => Below.heap_setCell _ _ _ k (fun e => hk (by rw [e]))⟩
theorem court_put {W w' : World} {AT : Option Addr} {T : List Tok} {ct : Nat} {AR : Option Addr} {R : List Rul} {cr : Nat} {wh : Int} (hB : Below W.heap.size W w') (h : CourtAt W.heap.size AT T ct AR R cr wh w') (n : Int) :
    Below W.heap.size W (w'.setCell ⟨W.heap.size, 2, none⟩ (.int .i64 n)) ∧ CourtAt W.heap.size AT T ct AR R cr n (w'.setCell ⟨W.heap.size, 2, none⟩ (.int .i64 n)) :=
  ⟨Below.grown hB (grown_set _ _ _) hB.size (fun k hk => by obtain rfl := Option.some.inj hk; exact Nat.le_refl _), blk_put h 2 _ rfl⟩
theorem court_where {bc : Nat} {w' : World} {AT : Option Addr} {T : List Tok} {ct : Nat} {AR : Option Addr} {R : List Rul} {cr : Nat} {wh : Int} (h : CourtAt bc AT T ct AR R cr wh w') :
    w'.cell? ⟨bc, 2, none⟩ = some (.int .i64 wh) ∧ w'.frozen? ⟨bc, 2, none⟩ = false := ⟨(blk_cell h 2).trans rfl, blk_frozen h 2⟩
set_option maxHeartbeats 4000000 in
set_option maxRecDepth 100000 in
theorem check_work (M E : Tok → Bool) (T : List Tok) (R : List Rul) (hM : ∀ t, t ∈ T → TokOk M E t) (bg : Nat) (AT : Option Addr) (ct : Nat) (AR : Option Addr) (cr : Nat) (W : World) (hg : W.heap[bg]? = some (.cells #[.slice AT T.length ct, .slice AR R.length cr] 26 (0, 0))) (hT : kTok.C W AT T.length T) (hR : kRul.C W AR R.length R) (hO : OwnAt W) :
    Calls Tryd.prog 28 #[.pointer (some ⟨bg, 0, none⟩)] W (ChkPost (checkS M E T R) W) := by
  have hlT : T.length ≤ 9223372036854775807 := hT.2.1
  have hlR : R.length ≤ 9223372036854775807 := hR.2.1
  obtain ⟨w1, hw1⟩ : ∃ w1, W.alloc (.cells #[.slice AT T.length ct, .slice AR R.length cr, .int .i64 0] 71) = w1 := ⟨_, rfl⟩
  have hnew : CourtAt W.heap.size AT T ct AR R cr 0 w1 := by rw [← hw1]; exact blk_new _ _
  have HB1 : Aside0 (Below W.heap.size W w1) := ⟨hw1 ▸ below1 W _⟩
  have g0 : W.cell? ⟨bg, 0, none⟩ = some (.slice AT T.length ct) := (blk_cell hg 0).trans rfl
  have g1 : W.cell? ⟨bg, 1, none⟩ = some (.slice AR R.length cr) := (blk_cell hg 1).trans rfl
  have HG : Aside0 (∀ W', Below W.heap.size W W' → W'.cell? ⟨bg, 0, none⟩ = some (.slice AT T.length ct) ∧ W'.cell? ⟨bg, 1, none⟩ = some (.slice AR R.length cr)) := ⟨fun W' hb => ⟨cell_after hb g0, cell_after hb g1⟩⟩
  have y0 := (HG.out _ HB1.out).1
  have hbl : bg < W.heap.size := blk_lt hg
  have hbne : bg ≠ W.heap.size := by omega
  have HC := Aside0.mk hnew
  have HT := Aside0.mk hT
  have HRR := Aside0.mk hR
  have HO := Aside0.mk hO
  have HM := Aside0.mk hM
  obtain ⟨res, hres⟩ : ∃ res, checkS M E T R = res := ⟨_, rfl⟩
  rw [hres]
  unfold checkS at hres
  have HR0 := Aside0.mk hres
  clear hres hnew hT hR hO hM hg hbl
  by_cases c1 : (1 : Int) ≤ T.length
  · by_cases c2 : (T.length : Int) ≤ 16
    · have HR1 : Aside0 (orP (toksS M E T 0 (T.drop 0)) (lateS T R) = res) := ⟨by rw [← HR0.out, if_pos ⟨c1, c2⟩]; rfl⟩
      clear HR0
      go_enter Tryd.func28, Tryd.ntmps28
      go_wp2_with fail
      refine (must_yes 6 HC.out).mono ?_
      rintro e w2 ⟨rfl, hb⟩
      have HB2 := Aside0.mk (join_below HB1.out hb)
      have HC2 := Aside0.mk (CourtAt.later HC.out hb)
      clear hb HC y0 g0 g1 hw1
      have y0 := (HG.out _ HB2.out).1
      go_wp2
      go_loopw [23] (fun i w' => ∃ k : Nat, i = .int .i64 k ∧ k ≤ T.length ∧ Aside0 (orP (toksS M E T k (T.drop k)) (lateS T R) = res) ∧ Aside0 (Below W.heap.size W w' ∧ ∃ wh, CourtAt W.heap.size AT T ct AR R cr wh w')) (fun i _ => T.length - (intOf i).toNat)
      case atStart => exact ⟨0, rfl, Nat.zero_le _, HR1, ⟨HB2.out, _, HC2.out⟩⟩
      case round =>
        obtain ⟨k, rfl, hkl, HI, HW⟩ := hrel
        obtain ⟨⟨hb, wh, hct⟩⟩ := HW
        clear y0 HC2 HB2 HR1
        by_cases hlt : k < T.length
        · obtain ⟨t, ht⟩ : ∃ t, T[k]? = some t := ⟨_, List.getElem?_eq_getElem hlt⟩
          have hdk : T.drop k = t :: T.drop (k + 1) := by
            rw [List.drop_eq_getElem_cons hlt]
            rw [List.getElem?_eq_getElem hlt] at ht
            rw [Option.some.inj ht]
          have hI := HI.out
          rw [hdk, toksS] at hI
          have HI2 := Aside0.mk hI
          have yw := court_where hct
          obtain ⟨yw1, yw2⟩ := yw
          have HP := Aside0.mk (court_put hb hct k)
          have HTT := Aside0.mk (And.intro ht (HM.out t (List.mem_of_getElem? ht)))
          clear hb hct hI HI hdk ht
          go_wp2_with fail
          refine (token_any M E T k t HTT.out.1 HTT.out.2 W.heap.size AT ct AR R cr k _ HP.out.2 (Kd.C_below HT.out HP.out.1) (Kd.C_below HO.out HP.out.1)).mono ?_
          rintro e w3 ⟨hb3, he⟩
          have HB3 := Aside0.mk (join_below HP.out.1 hb3)
          have HC3 := Aside0.mk (CourtAt.later HP.out.2 hb3)
          clear hb3
          have hI := HI2.out
          clear HI2 yw1 yw2
          generalize tokS M E T t k = r1 at he hI
          cases r1 with
          | some c =>
            have he' : e = .panicked [{ v := faultV c k, recovered := false }] := he
            subst he'
            have HRN : Aside0 (res = some (c, (k : Int))) := ⟨hI.symm⟩
            clear he hI
            go_wp2
            exact ⟨rfl, by rw [HRN.out]; exact ChkPost.bad HB3.out⟩
          | none =>
            have he' : e = .returned (.tuple #[]) := he
            subst he'
            have HI3 : Aside0 (orP (toksS M E T (k + 1) (T.drop (k + 1))) (lateS T R) = res) := ⟨hI⟩
            clear he hI
            go_wp2
            go_roundw
            case rel => exact ⟨k + 1, by go_num, by omega, HI3, ⟨HB3.out, _, HC3.out⟩⟩
            case measure => simp [intOf]; omega
        · have e : k = T.length := by omega
          have hI := HI.out
          rw [e, List.drop_length, toksS] at hI
          have HI2 : Aside0 (lateS T R = res) := ⟨hI⟩
          have yw := court_where hct
          obtain ⟨yw1, yw2⟩ := yw
          have HP := Aside0.mk (court_put hb hct T.length)
          have y0 := (HG.out _ hb).1
          have gg := HG.out _ HP.out.1
          obtain ⟨gg0, gg1⟩ := gg
          clear hb hct hI HI e hkl
          by_cases c3 : (R.length : Int) ≤ 8
          · have HI3 : Aside0 (rulesS T 0 (R.drop 0) = res) := ⟨by rw [← HI2.out, lateS, if_pos c3]; rfl⟩
            clear HI2
            go_wp2_with fail
            refine (must_yes 6 HP.out.2).mono ?_
            rintro e w3 ⟨rfl, hb3⟩
            have HB3 := Aside0.mk (join_below HP.out.1 hb3)
            have HC3 := Aside0.mk (CourtAt.later HP.out.2 hb3)
            clear hb3 yw1 yw2 y0 gg0 gg1
            have gg := HG.out _ HB3.out
            obtain ⟨gg0, gg1⟩ := gg
            go_wp2
            go_loopw [49] (fun i w' => ∃ k : Nat, i = .int .i64 k ∧ k ≤ R.length ∧ Aside0 (rulesS T k (R.drop k) = res) ∧ Aside0 (Below W.heap.size W w' ∧ ∃ wh, CourtAt W.heap.size AT T ct AR R cr wh w')) (fun i _ => R.length - (intOf i).toNat)
            case atStart => exact ⟨0, rfl, Nat.zero_le _, HI3, ⟨HB3.out, _, HC3.out⟩⟩
            case round =>
              clear gg0 gg1 HI3 HB3 HC3
              obtain ⟨k2, rfl, hkl2, HI, HW⟩ := hrel
              obtain ⟨⟨hb, wh2, hct⟩⟩ := HW
              by_cases hlt2 : k2 < R.length
              · obtain ⟨g, o, rfl, hgl, hcell⟩ := row_cells HRR.out (by omega) (by decide)
                obtain ⟨r, hr⟩ : ∃ r, R[k2]? = some r := ⟨_, List.getElem?_eq_getElem hlt2⟩
                obtain ⟨cs, _, hKr, hcc⟩ := hcell k2 r hr
                have HKr := Aside0.mk hKr
                obtain ⟨D2, d2, rfl, _, _⟩ := k32_open hKr
                have v0 := cell_after hb (hcc 0 (.int .i64 r.f0) rfl)
                have v1 := cell_after hb (hcc 1 (.bool r.f1) rfl)
                have v2 := cell_after hb (hcc 2 (.slice D2 r.f2.length d2) rfl)
                rw [Nat.add_zero] at v0
                simp only [show kRul.sz = 3 from rfl] at v0 v1 v2
                have hdk : R.drop k2 = r :: R.drop (k2 + 1) := by
                  rw [List.drop_eq_getElem_cons hlt2]
                  rw [List.getElem?_eq_getElem hlt2] at hr
                  rw [Option.some.inj hr]
                have hI := HI.out
                rw [hdk, rulesS] at hI
                have HI2 := Aside0.mk hI
                obtain ⟨wa, hwa⟩ : ∃ wa, wr.alloc (.cells #[.int .i64 r.f0, .bool r.f1, .slice D2 r.f2.length d2] 32) = wa := ⟨_, rfl⟩
                have hnw : wa.heap[wr.heap.size]? = some (.cells #[.int .i64 r.f0, .bool r.f1, .slice D2 r.f2.length d2] 32 (0, 0)) := by rw [← hwa]; exact blk_new _ _
                have hba : Below W.heap.size W wa := hwa ▸ below_alloc hb _
                have hcta : CourtAt W.heap.size AT T ct (some ⟨g, o, none⟩) R cr wh2 wa := by rw [← hwa]; exact blk_alloc hct _
                have hne : wr.heap.size ≠ W.heap.size := Nat.ne_of_gt (blk_lt hct)
                have y0 := (HG.out _ hba).1
                have yw := court_where hcta
                obtain ⟨yw1, yw2⟩ := yw
                obtain ⟨ws, hws⟩ : ∃ ws, wa.setCell ⟨W.heap.size, 2, none⟩ (.int .i64 ((T.length : Int) + k2)) = ws := ⟨_, rfl⟩
                have hP := court_put hba hcta ((T.length : Int) + k2)
                have hnws : ws.heap[wr.heap.size]? = some (.cells #[.int .i64 r.f0, .bool r.f1, .slice D2 r.f2.length d2] 32 (0, 0)) := by rw [← hws]; exact blk_far hnw hne _
                rw [hws] at hP
                have HP := Aside0.mk hP
                have x0 : ws.cell? ⟨wr.heap.size, 0, none⟩ = some (.int .i64 r.f0) := (blk_cell hnws 0).trans rfl
                have x1 : ws.cell? ⟨wr.heap.size, 1, none⟩ = some (.bool r.f1) := (blk_cell hnws 1).trans rfl
                have x2 : ws.cell? ⟨wr.heap.size, 2, none⟩ = some (.slice D2 r.f2.length d2) := (blk_cell hnws 2).trans rfl
                clear hP hnws hnw hba hcta hct hb hI HI hr hdk hcell hcc hKr hne
                go_wp2_with fail
                refine (rule_any T r W.heap.size AT ct _ R cr ((T.length : Int) + k2) W _ _ HP.out.1 HP.out.2 (Kd.C_below HT.out HP.out.1) HKr.out).mono ?_
                rintro e w4 ⟨hb4, he⟩
                have HB4 := Aside0.mk (join_below HP.out.1 hb4)
                have HC4 := Aside0.mk (CourtAt.later HP.out.2 hb4)
                clear hb4 x0 x1 x2 yw1 yw2 y0 v0 v1 v2
                have hI := HI2.out
                clear HI2 hwa hws
                generalize ruleS T r = r1 at he hI
                cases r1 with
                | some c =>
                  have he' : e = .panicked [{ v := faultV c ((T.length : Int) + k2), recovered := false }] := he
                  subst he'
                  have HRN : Aside0 (res = some (c, (T.length : Int) + k2)) := ⟨hI.symm⟩
                  clear he hI
                  go_wp2
                  exact ⟨rfl, by rw [HRN.out]; exact ChkPost.bad HB4.out⟩
                | none =>
                  have he' : e = .returned (.tuple #[]) := he
                  subst he'
                  have HI3 : Aside0 (rulesS T (k2 + 1) (R.drop (k2 + 1)) = res) := ⟨hI⟩
                  clear he hI
                  go_wp2
                  go_roundw
                  case rel => exact ⟨k2 + 1, by go_num, by omega, HI3, ⟨HB4.out, _, HC4.out⟩⟩
                  case measure => simp [intOf]; omega
              · have e : k2 = R.length := by omega
                have HQ : Aside0 (res = none) := ⟨by rw [← HI.out, e, List.drop_length]; rfl⟩
                have HBB := Aside0.mk hb
                clear e hb
                go_wp2
                first | go_end0 | refine bodyPost_ret (results_none rfl _ _ _) rfl ?_
                rw [HQ.out]
                exact ChkPost.ok HBB.out
          · have d3 : decide ((R.length : Int) ≤ 8) = false := decide_eq_false c3
            have HRN : Aside0 (res = some (6, (T.length : Int))) := ⟨by rw [← HI2.out, lateS, if_neg c3]⟩
            clear HI2 c3
            go_wp2_with fail
            refine (must_no 6 HP.out.2).mono ?_
            rintro e w3 ⟨rfl, hb3⟩
            have HB3 := Aside0.mk (join_below HP.out.1 hb3)
            clear hb3 yw1 yw2 y0 gg0 gg1
            go_wp2
            exact ⟨rfl, by rw [HRN.out]; exact ChkPost.bad HB3.out⟩
    · have d2 : decide ((T.length : Int) ≤ 16) = false := decide_eq_false c2
      have HRN : Aside0 (res = some (6, 0)) := ⟨by rw [← HR0.out, if_neg (fun h => c2 h.2)]⟩
      clear HR0 c2
      go_enter Tryd.func28, Tryd.ntmps28
      go_wp2_with fail
      refine (must_no 6 HC.out).mono ?_
      rintro e w2 ⟨rfl, hb⟩
      have HB2 := Aside0.mk (join_below HB1.out hb)
      clear hb y0
      go_wp2
      exact ⟨rfl, by rw [HRN.out]; exact ChkPost.bad HB2.out⟩
  · have d1 : decide ((1 : Int) ≤ T.length) = false := decide_eq_false c1
    have HRN : Aside0 (res = some (6, 0)) := ⟨by rw [← HR0.out, if_neg (fun h => c1 h.1)]⟩
    clear HR0 c1
    go_enter Tryd.func28, Tryd.ntmps28
    go_wp2_with fail
    refine (must_no 6 HC.out).mono ?_
    rintro e w2 ⟨rfl, hb⟩
    have HB2 := Aside0.mk (join_below HB1.out hb)
    clear hb y0
    go_wp2
    exact ⟨rfl, by rw [HRN.out]; exact ChkPost.bad HB2.out⟩
end Go.Proofs.YthdfmbmbjpmlaaaDoor.Rn
/- gram.caught, gram.Check. -/
set_option linter.unusedVariables false
set_option linter.unusedSimpArgs false
namespace Go.Proofs.YthdfmbmbjpmlaaaDoor.Rn
open Go Go.RowKit Go.Proofs.YthdfmbmbjpmlaaaDoorW.PrintWords Go.Proofs.YthdfmbmbjpmlaaaDoorW.PrintLast Go.Proofs.YthdfmbmbjpmlaaaDoorW.PrintMore
theorem assert_fault (v : Value) (s : TypeId) (w : World) : (Instr.typeAssert (.iface 67 v) s 67 true).run Tryd.prog w = .ok (.tuple #[v, .bool true]) w := by
  simp [Instr.typeAssert, run_underlying Tryd.underlying67]
theorem makeFunc_run (fn : Fn) (first cap : Array Value) (w : World) : (Instr.makeFunc fn first cap).run Tryd.prog w = .ok (.func fn first cap) w := rfl
def caughtW (w : World) (b : Nat) (c n : Int) : World := ((w.setCell ⟨b, 0, none⟩ (.int .i64 c)).setCell ⟨b, 1, none⟩ (.int .i64 n)).alloc (.cells #[.int .i64 c, .int .i64 n] 67)
set_option maxHeartbeats 400000 in
theorem catch_panicking (b : Nat) (x y c n : Int) (older : List PanicEntry) (w : World) (hb : w.heap[b]? = some (.cells #[.int .i64 x, .int .i64 y] 67 (0, 0))) :
    CallsD Tryd.prog 41 #[.pointer (some ⟨b, 0, none⟩)] (.panicking ({ v := faultV c n, recovered := false } :: older)) w fun e u' w' =>
      e = .returned (.tuple #[]) ∧ u' = .panicking ({ v := faultV c n, recovered := true } :: older) ∧ w' = caughtW w b c n := by
  have hta := assert_fault
  have hlt := blk_lt hb
  have hne : w.heap.size ≠ b := by omega
  have hc : ∀ o, (w.alloc o).cell? ⟨b, 0, none⟩ = some (.int .i64 x) := fun o => (blk_cell (blk_alloc hb o) 0).trans rfl
  have hc1 : ∀ o, (w.alloc o).cell? ⟨b, 1, none⟩ = some (.int .i64 y) := fun o => (blk_cell (blk_alloc hb o) 1).trans rfl
  have hz : ∀ o, (w.alloc o).frozen? ⟨b, 0, none⟩ = false := fun o => blk_frozen (blk_alloc hb o) 0
  have hz1 : ∀ o, (w.alloc o).frozen? ⟨b, 1, none⟩ = false := fun o => blk_frozen (blk_alloc hb o) 1
  have hb2 := blk_put hb 0 (.int .i64 c) rfl
  have hc2 : ∀ o, ((w.setCell ⟨b, 0, none⟩ (.int .i64 c)).alloc o).cell? ⟨b, 1, none⟩ = some (.int .i64 y) := fun o => (blk_cell (blk_alloc hb2 o) 1).trans rfl
  have hz2 : ∀ o, ((w.setCell ⟨b, 0, none⟩ (.int .i64 c)).alloc o).frozen? ⟨b, 1, none⟩ = false := fun o => blk_frozen (blk_alloc hb2 o) 1
  clear hb hb2
  refine callsD_of_wpS Tryd.func41 rfl fun c₀ cs hu => ?_
  apply wpS_seq
  apply wpS_region
  simp [wpOpsS, go_sem, recoverD, hu, Tryd.ntmps41, Exit.thenS, faultV]
  change Code.wpS _ _ _ ⟨#[.pointer (some ⟨b, 0, none⟩), .iface 67 (.agg #[.int .i64 c, .int .i64 n]), undef, undef, .iface 67 (.agg #[.int .i64 c, .int .i64 n]), undef, undef, undef, undef, undef, undef, undef, undef, undef, undef, undef], []⟩ _ _
  refine wpS_of_wp ?_
  go_wp2
  simp [bodyPostS, results, Tryd.results41, caughtW]
theorem catch_idle (p : Addr) (w : World) :
    CallsD Tryd.prog 41 #[.pointer (some p)] .returning w fun e u' w' => e = .returned (.tuple #[]) ∧ u' = .returning ∧ w' = w := by
  refine callsD_of_wpS Tryd.func41 rfl fun c₀ cs hu => ?_
  apply wpS_seq
  apply wpS_region
  simp [wpOpsS, go_sem, recoverD, hu, Tryd.ntmps41, Exit.thenS]
  change Code.wpS _ _ _ ⟨#[.pointer (some p), .nilIface, undef, undef, .nilIface, undef, undef, undef, undef, undef, undef, undef, undef, undef, undef, undef], []⟩ _ _
  refine wpS_of_wp ?_
  go_wp2
  cases c₀
  simp_all [bodyPostS, results, Tryd.results41]
def codeOf (res : Option (Int × Int)) : Int × Int := match res with | none => (0, 0) | some p => p
set_option maxHeartbeats 1000000 in
set_option maxRecDepth 100000 in
theorem caught_any (M E : Tok → Bool) (T : List Tok) (R : List Rul) (hM : ∀ t, t ∈ T → TokOk M E t) (bg : Nat) (AT : Option Addr) (ct : Nat) (AR : Option Addr) (cr : Nat) (W : World) (hg : W.heap[bg]? = some (.cells #[.slice AT T.length ct, .slice AR R.length cr] 26 (0, 0))) (hT : kTok.C W AT T.length T) (hR : kRul.C W AR R.length R) (hO : OwnAt W) :
    Calls Tryd.prog 27 #[.func (.func 28) #[] #[.pointer (some ⟨bg, 0, none⟩)]] W fun e W' => e = .returned (.agg #[.int .i64 (codeOf (checkS M E T R)).1, .int .i64 (codeOf (checkS M E T R)).2]) ∧ Below W.heap.size W W' := by
  have hmf := makeFunc_run
  have hgo := fun o => check_work M E T R hM bg AT ct AR cr (W.alloc o) (blk_alloc hg o) (Kd.C_below hT (below1 W o)) (Kd.C_below hR (below1 W o)) (Kd.C_below hO (below1 W o))
  have HGO := Aside0.mk hgo
  clear hgo hM hg hT hR hO
  generalize checkS M E T R = res at HGO
  cases res with
  | some p =>
    obtain ⟨c, n⟩ := p
    go_enter_defers Tryd.func27, Tryd.ntmps27
    go_wp2_with fail
    refine (HGO.out _).mono ?_
    rintro e w2 ⟨hb, he⟩
    have he' : e = .panicked [{ v := faultV c n, recovered := false }] := he
    subst he'
    have hbx : w2.heap[W.heap.size]? = some (.cells #[.int .i64 0, .int .i64 0] 67 (0, 0)) := (hb.block _ (by simp)).trans (blk_new W _)
    have HB := Aside0.mk (join_below (below1 W _) hb)
    clear he hb
    go_wp2
    refine leaves_cons (f := 41) (args := #[.pointer (some ⟨W.heap.size, 0, none⟩)]) (by simp) (by simp [go_sem]) ?_
    refine (catch_panicking W.heap.size 0 0 c n [] _ hbx).mono ?_
    rintro e u' w'' ⟨rfl, rfl, rfl⟩
    have hput := blk_alloc (blk_put (blk_put hbx 0 (.int .i64 c) rfl) 1 (.int .i64 n) rfl) (.cells #[.int .i64 c, .int .i64 n] 67)
    have hc0 : (caughtW w2 W.heap.size c n).cell? ⟨W.heap.size, 0, none⟩ = some (.int .i64 c) := (blk_cell hput 0).trans rfl
    have hc1 : (caughtW w2 W.heap.size c n).cell? ⟨W.heap.size, 1, none⟩ = some (.int .i64 n) := (blk_cell hput 1).trans rfl
    have hfin : Below W.heap.size W (caughtW w2 W.heap.size c n) := below_alloc ((HB.out.setCell (Nat.le_refl _) _).setCell (Nat.le_refl _) _) _
    simp [Leaves, settle, results, Tryd.results27, go_sem, hc0, hc1, hfin, codeOf]
  | none =>
    go_enter_defers Tryd.func27, Tryd.ntmps27
    go_wp2_with fail
    refine (HGO.out _).mono ?_
    rintro e w2 ⟨hb, he⟩
    have he' : e = .returned (.tuple #[]) := he
    subst he'
    have hbx : w2.heap[W.heap.size]? = some (.cells #[.int .i64 0, .int .i64 0] 67 (0, 0)) := (hb.block _ (by simp)).trans (blk_new W _)
    have HB := Aside0.mk (join_below (below1 W _) hb)
    clear he hb
    have ce0 : w2.cell? ⟨W.heap.size, 0, none⟩ = some (.int .i64 0) := (blk_cell hbx 0).trans rfl
    have ce1 : w2.cell? ⟨W.heap.size, 1, none⟩ = some (.int .i64 0) := (blk_cell hbx 1).trans rfl
    have fr0 := blk_frozen hbx 0
    have fr1 := blk_frozen hbx 1
    have hb2 := blk_put hbx 0 (.int .i64 0) rfl
    have ce2 : (w2.setCell ⟨W.heap.size, 0, none⟩ (.int .i64 0)).cell? ⟨W.heap.size, 1, none⟩ = some (.int .i64 0) := (blk_cell hb2 1).trans rfl
    have fr2 := blk_frozen hb2 1
    have hb3 := blk_put hb2 1 (.int .i64 0) rfl
    have HB3 := Aside0.mk hb3
    clear hb2 hb3
    go_wp2
    refine leaves_cons (f := 41) (args := #[.pointer (some ⟨W.heap.size, 0, none⟩)]) (by simp) (by simp [go_sem]) ?_
    refine (catch_idle ⟨W.heap.size, 0, none⟩ _).mono ?_
    rintro e u' w'' ⟨rfl, rfl, rfl⟩
    have hc0 : ((w2.setCell ⟨W.heap.size, 0, none⟩ (.int .i64 0)).setCell ⟨W.heap.size, 1, none⟩ (.int .i64 0)).cell? ⟨W.heap.size, 0, none⟩ = some (.int .i64 0) := (blk_cell HB3.out 0).trans rfl
    have hc1 : ((w2.setCell ⟨W.heap.size, 0, none⟩ (.int .i64 0)).setCell ⟨W.heap.size, 1, none⟩ (.int .i64 0)).cell? ⟨W.heap.size, 1, none⟩ = some (.int .i64 0) := (blk_cell HB3.out 1).trans rfl
    have hfin : Below W.heap.size W ((w2.setCell ⟨W.heap.size, 0, none⟩ (.int .i64 0)).setCell ⟨W.heap.size, 1, none⟩ (.int .i64 0)) := (HB.out.setCell (Nat.le_refl _) _).setCell (Nat.le_refl _) _
    simp [Leaves, settle, results, Tryd.results27, go_sem, hc0, hc1, hfin, codeOf]
set_option maxHeartbeats 1000000 in
set_option maxRecDepth 100000 in
theorem check_any (M E : Tok → Bool) (T : List Tok) (R : List Rul) (hM : ∀ t, t ∈ T → TokOk M E t) (AT : Option Addr) (ct : Nat) (AR : Option Addr) (cr : Nat) (W : World) (hT : kTok.C W AT T.length T) (hR : kRul.C W AR R.length R) (hO : OwnAt W) :
    Calls Tryd.prog 15 #[.agg #[.slice AT T.length ct, .slice AR R.length cr]] W fun e W' => e = .returned (.tuple #[.int .i64 (codeOf (checkS M E T R)).1, .int .i64 (codeOf (checkS M E T R)).2]) ∧ Below W.heap.size W W' := by
  have hmf := makeFunc_run
  have hgo := caught_any M E T R hM W.heap.size AT ct AR cr (W.alloc (.cells #[.slice AT T.length ct, .slice AR R.length cr] 26)) (blk_new W _) (Kd.C_below hT (below1 W _)) (Kd.C_below hR (below1 W _)) (Kd.C_below hO (below1 W _))
  generalize codeOf (checkS M E T R) = p at hgo
  obtain ⟨c, n⟩ := p
  have HGO := Aside0.mk hgo
  clear hgo hM hT hR hO
  go_enter Tryd.func15, Tryd.ntmps15
  go_wp2_with fail
  refine HGO.out.mono ?_
  rintro e w2 ⟨rfl, hb⟩
  have HB := Aside0.mk (join_below (below1 W _) hb)
  clear hb
  go_wp2
  go_quiet (fail)
  go_wp2
  refine bodyPost_ret (results_tmp2 rfl _ _ _) rfl ?_
  exact ⟨rfl, pw_below_drewN (below_alloc HB.out _) nq⟩
end Go.Proofs.YthdfmbmbjpmlaaaDoor.Rn
/- slices.EqualFunc over rows of structs. -/
set_option linter.unusedVariables false
set_option linter.unusedSimpArgs false
namespace Go.Proofs.YthdfmbmbjpmlaaaDoor.Rn
open Go Go.RowKit Go.Proofs.YthdfmbmbjpmlaaaDoorW.PrintWords Go.Proofs.YthdfmbmbjpmlaaaDoorW.PrintLast Go.Proofs.YthdfmbmbjpmlaaaDoorW.PrintMore
/-- two rows, part by part -/
def eqL {α : Type} (q : α → α → Bool) : List α → List α → Bool
  | [], [] => true
  | x :: l, y :: m => q x y && eqL q l m
  | _, _ => false
theorem eqL_len {α : Type} (q : α → α → Bool) : ∀ {l m : List α}, l.length ≠ m.length → eqL q l m = false
  | [], [], h => absurd rfl h
  | [], _ :: _, _ => rfl
  | _ :: _, [], _ => rfl
  | x :: l, y :: m, h => by
    rw [eqL, eqL_len q (fun e => h (by simp [e])), Bool.and_false]
theorem eqL_drop {α : Type} (q : α → α → Bool) {l m : List α} {k : Nat} (h1 : k < l.length) (h2 : k < m.length) : eqL q (l.drop k) (m.drop k) = (q l[k] m[k] && eqL q (l.drop (k + 1)) (m.drop (k + 1))) := by
  rw [List.drop_eq_getElem_cons h1, List.drop_eq_getElem_cons h2, eqL]
set_option maxHeartbeats 1000000 in
set_option maxRecDepth 100000 in
theorem pats_equal (q : S37 → S37 → Bool) (xs ys : List S37) (A B : Option Addr) (c d : Nat) (w0 w : World) (hA : k37.C w0 A xs.length xs) (hB : k37.C w0 B ys.length ys) (hw : Below w0.heap.size w0 w)
    (hq : ∀ x y cs ds W, x ∈ xs → y ∈ ys → Below w0.heap.size w0 W → k37.K w0 x cs → k37.K w0 y ds → Calls Tryd.prog 13 #[.agg cs.toArray, .agg ds.toArray] W fun e W' => e = .returned (.bool (q x y)) ∧ Below W.heap.size W W') :
    Calls Tryd.prog 25 #[.slice A xs.length c, .slice B ys.length d, .func (.func 13) #[] #[]] w fun e W' => e = .returned (.bool (eqL q xs ys)) ∧ Below w.heap.size w W' := by
  have hl : xs.length ≤ 9223372036854775807 := hA.2.1
  have hm : ys.length ≤ 9223372036854775807 := hB.2.1
  obtain ⟨res, hres⟩ : ∃ r, eqL q xs ys = r := ⟨_, rfl⟩
  rw [hres]
  have HA := Aside0.mk hA
  have HC := Aside0.mk hB
  have HQ := Aside0.mk hq
  have HW := Aside0.mk hw
  have HR := Aside0.mk hres
  clear hA hB hq hw hres
  by_cases hlen : xs.length = ys.length
  · have hmm : ((xs.length : Int) != (ys.length : Int)) = false := by rw [hlen]; simp
    have HL := Aside0.mk hlen
    clear hlen
    go_enter Tryd.func25, Tryd.ntmps25
    go_wp2
    go_loopw [17] (fun i W => ∃ k : Nat, i = .int .i64 k ∧ k ≤ xs.length ∧ Aside0 (Below w.heap.size w W) ∧ Aside0 (eqL q (xs.drop k) (ys.drop k) = res)) (fun i _ => xs.length - (intOf i).toNat)
    case atStart => exact ⟨0, rfl, Nat.zero_le _, ⟨Below.refl _ _⟩, ⟨HR.out⟩⟩
    case round =>
      obtain ⟨k, rfl, hkl, HI, HE⟩ := hrel
      by_cases hlt : k < xs.length
      · have hlt2 : k < ys.length := by have := HL.out; omega
        have HN := Aside0.mk (eqL_drop q hlt hlt2)
        have HB0 := Aside0.mk (join_below HW.out HI.out)
        obtain ⟨g, o, rfl, _, hcell⟩ := row_cells HA.out (by omega) (by decide)
        obtain ⟨g2, o2, rfl, _, hcell2⟩ := row_cells HC.out (by omega) (by decide)
        have hx : xs[k]? = some xs[k] := List.getElem?_eq_getElem hlt
        have hy : ys[k]? = some ys[k] := List.getElem?_eq_getElem hlt2
        have HMX := Aside0.mk (List.getElem_mem hlt)
        have HMY := Aside0.mk (List.getElem_mem hlt2)
        generalize xs[k] = x at hx HMX HN
        generalize ys[k] = y at hy HMY HN
        obtain ⟨cs, hcl, hK, hcc⟩ := hcell k x hx
        obtain ⟨ds, hdl, hK2, hcd⟩ := hcell2 k y hy
        have HK := Aside0.mk hK
        have HK2 := Aside0.mk hK2
        obtain ⟨A1, c1, A2, c2, A3, c3, rfl, l1, g1, l2, g2, l3, g3⟩ := k37_open hK
        obtain ⟨B1, d1, B2, d2, B3, d3, rfl, m1, h1, m2, h2, m3, h3⟩ := k37_open hK2
        have y0 := cell_after HB0.out (hcc 0 (.int .i64 x.f0) rfl)
        have z0 := fun ob => cell_after (below_alloc HB0.out ob) (hcd 0 (.int .i64 y.f0) rfl)
        rw [Nat.add_zero] at y0
        simp only [Nat.add_zero] at z0
        have y1 := cell_after HB0.out (hcc 1 (.slice A1 x.f1.length c1) rfl)
        have z1 := fun ob => cell_after (below_alloc HB0.out ob) (hcd 1 (.slice B1 y.f1.length d1) rfl)
        have y2 := cell_after HB0.out (hcc 2 (.slice A2 x.f2.length c2) rfl)
        have z2 := fun ob => cell_after (below_alloc HB0.out ob) (hcd 2 (.slice B2 y.f2.length d2) rfl)
        have y3 := cell_after HB0.out (hcc 3 (.slice A3 x.f3.length c3) rfl)
        have z3 := fun ob => cell_after (below_alloc HB0.out ob) (hcd 3 (.slice B3 y.f3.length d3) rfl)
        simp only [show k37.sz = 4 from rfl] at y0 z0 y1 z1 y2 z2 y3 z3
        clear hcell hcc hcell2 hcd hx hy hK hK2 hcl hdl
        go_wp2_with fail
        refine (HQ.out x y _ _ _ HMX.out HMY.out (below_alloc (below_alloc HB0.out _) _) HK.out HK2.out).mono ?_
        rintro e w2 ⟨rfl, hb⟩
        have HI2 := Aside0.mk (join_below HI.out (join_below (below_alloc (below1 _ _) _) hb))
        clear hb
        have he := HE.out
        rw [HN.out] at he
        cases hqq : q x y
        · rw [hqq, Bool.false_and] at he
          have HF := Aside0.mk he
          clear he hqq
          go_wp2
          go_ret
          exact ⟨by rw [← HF.out]; rfl, HI2.out⟩
        · rw [hqq, Bool.true_and] at he
          have HF := Aside0.mk he
          clear he hqq
          go_wp2
          go_roundw
          case rel => exact ⟨k + 1, by go_num, by omega, HI2, HF⟩
          case measure => simp [intOf]; omega
      · have he := HE.out
        rw [List.drop_of_length_le (by omega), List.drop_of_length_le (by have := HL.out; omega)] at he
        have HF := Aside0.mk he
        clear he
        go_wp2
        go_ret
        exact ⟨by rw [← HF.out]; rfl, HI.out⟩
  · have hmm : ((xs.length : Int) != (ys.length : Int)) = true := by simp; omega
    have HF := Aside0.mk (eqL_len q hlen)
    have hne : ¬ ((xs.length : Int) = (ys.length : Int)) := by omega
    clear hlen
    go_enter Tryd.func25, Tryd.ntmps25
    go_wp2
    go_ret
    exact ⟨by rw [← HR.out, HF.out]; rfl, Below.refl _ _⟩
set_option maxHeartbeats 1000000 in
set_option maxRecDepth 100000 in
theorem res_equal (q : S48 → S48 → Bool) (xs ys : List S48) (A B : Option Addr) (c d : Nat) (w0 w : World) (hA : k48.C w0 A xs.length xs) (hB : k48.C w0 B ys.length ys) (hw : Below w0.heap.size w0 w)
    (hq : ∀ x y cs ds W, x ∈ xs → y ∈ ys → Below w0.heap.size w0 W → k48.K w0 x cs → k48.K w0 y ds → Calls Tryd.prog 37 #[.agg cs.toArray, .agg ds.toArray] W fun e W' => e = .returned (.bool (q x y)) ∧ Below W.heap.size W W') :
    Calls Tryd.prog 49 #[.slice A xs.length c, .slice B ys.length d, .func (.func 37) #[] #[]] w fun e W' => e = .returned (.bool (eqL q xs ys)) ∧ Below w.heap.size w W' := by
  have hl : xs.length ≤ 9223372036854775807 := hA.2.1
  have hm : ys.length ≤ 9223372036854775807 := hB.2.1
  obtain ⟨res, hres⟩ : ∃ r, eqL q xs ys = r := ⟨_, rfl⟩
  rw [hres]
  have HA := Aside0.mk hA
  have HC := Aside0.mk hB
  have HQ := Aside0.mk hq
  have HW := Aside0.mk hw
  have HR := Aside0.mk hres
  clear hA hB hq hw hres
  by_cases hlen : xs.length = ys.length
  · have hmm : ((xs.length : Int) != (ys.length : Int)) = false := by rw [hlen]; simp
    have HL := Aside0.mk hlen
    clear hlen
    go_enter Tryd.func49, Tryd.ntmps49
    go_wp2
    go_loopw [17] (fun i W => ∃ k : Nat, i = .int .i64 k ∧ k ≤ xs.length ∧ Aside0 (Below w.heap.size w W) ∧ Aside0 (eqL q (xs.drop k) (ys.drop k) = res)) (fun i _ => xs.length - (intOf i).toNat)
    case atStart => exact ⟨0, rfl, Nat.zero_le _, ⟨Below.refl _ _⟩, ⟨HR.out⟩⟩
    case round =>
      obtain ⟨k, rfl, hkl, HI, HE⟩ := hrel
      by_cases hlt : k < xs.length
      · have hlt2 : k < ys.length := by have := HL.out; omega
        have HN := Aside0.mk (eqL_drop q hlt hlt2)
        have HB0 := Aside0.mk (join_below HW.out HI.out)
        obtain ⟨g, o, rfl, _, hcell⟩ := row_cells HA.out (by omega) (by decide)
        obtain ⟨g2, o2, rfl, _, hcell2⟩ := row_cells HC.out (by omega) (by decide)
        have hx : xs[k]? = some xs[k] := List.getElem?_eq_getElem hlt
        have hy : ys[k]? = some ys[k] := List.getElem?_eq_getElem hlt2
        have HMX := Aside0.mk (List.getElem_mem hlt)
        have HMY := Aside0.mk (List.getElem_mem hlt2)
        generalize xs[k] = x at hx HMX HN
        generalize ys[k] = y at hy HMY HN
        obtain ⟨cs, hcl, hK, hcc⟩ := hcell k x hx
        obtain ⟨ds, hdl, hK2, hcd⟩ := hcell2 k y hy
        have HK := Aside0.mk hK
        have HK2 := Aside0.mk hK2
        obtain ⟨A1, c1, A2, c2, rfl, l1, g1, l2, g2⟩ := k48_open hK
        obtain ⟨B1, d1, B2, d2, rfl, m1, h1, m2, h2⟩ := k48_open hK2
        have y0 := cell_after HB0.out (hcc 0 (.int .i64 x.f0) rfl)
        have z0 := fun ob => cell_after (below_alloc HB0.out ob) (hcd 0 (.int .i64 y.f0) rfl)
        rw [Nat.add_zero] at y0
        simp only [Nat.add_zero] at z0
        have y1 := cell_after HB0.out (hcc 1 (.slice A1 x.f1.length c1) rfl)
        have z1 := fun ob => cell_after (below_alloc HB0.out ob) (hcd 1 (.slice B1 y.f1.length d1) rfl)
        have y2 := cell_after HB0.out (hcc 2 (.slice A2 x.f2.length c2) rfl)
        have z2 := fun ob => cell_after (below_alloc HB0.out ob) (hcd 2 (.slice B2 y.f2.length d2) rfl)
        simp only [show k48.sz = 3 from rfl] at y0 z0 y1 z1 y2 z2
        clear hcell hcc hcell2 hcd hx hy hK hK2 hcl hdl
        go_wp2_with fail
        refine (HQ.out x y _ _ _ HMX.out HMY.out (below_alloc (below_alloc HB0.out _) _) HK.out HK2.out).mono ?_
        rintro e w2 ⟨rfl, hb⟩
        have HI2 := Aside0.mk (join_below HI.out (join_below (below_alloc (below1 _ _) _) hb))
        clear hb
        have he := HE.out
        rw [HN.out] at he
        cases hqq : q x y
        · rw [hqq, Bool.false_and] at he
          have HF := Aside0.mk he
          clear he hqq
          go_wp2
          go_ret
          exact ⟨by rw [← HF.out]; rfl, HI2.out⟩
        · rw [hqq, Bool.true_and] at he
          have HF := Aside0.mk he
          clear he hqq
          go_wp2
          go_roundw
          case rel => exact ⟨k + 1, by go_num, by omega, HI2, HF⟩
          case measure => simp [intOf]; omega
      · have he := HE.out
        rw [List.drop_of_length_le (by omega), List.drop_of_length_le (by have := HL.out; omega)] at he
        have HF := Aside0.mk he
        clear he
        go_wp2
        go_ret
        exact ⟨by rw [← HF.out]; rfl, HI.out⟩
  · have hmm : ((xs.length : Int) != (ys.length : Int)) = true := by simp; omega
    have HF := Aside0.mk (eqL_len q hlen)
    have hne : ¬ ((xs.length : Int) = (ys.length : Int)) := by omega
    clear hlen
    go_enter Tryd.func49, Tryd.ntmps49
    go_wp2
    go_ret
    exact ⟨by rw [← HR.out, HF.out]; rfl, Below.refl _ _⟩
end Go.Proofs.YthdfmbmbjpmlaaaDoor.Rn
/- regex.Same. -/
set_option linter.unusedVariables false
set_option linter.unusedSimpArgs false
namespace Go.Proofs.YthdfmbmbjpmlaaaDoor.Rn
open Go Go.RowKit Go.Proofs.YthdfmbmbjpmlaaaDoorW.PrintWords Go.Proofs.YthdfmbmbjpmlaaaDoorW.PrintLast Go.Proofs.YthdfmbmbjpmlaaaDoorW.PrintMore
def rgQ (x y : S56) : Bool := (x.f0 == y.f0) && (x.f1 == y.f1)
theorem rd_rgq (l : List S56) (i : Nat) (hi : i < l.length) : rd_T56 l (i : Int) = l[i] := by
  unfold rd_T56
  rw [Int.toNat_natCast, List.getD_eq_getElem?_getD, List.getElem?_eq_getElem hi]
  rfl
theorem eqrg_l (l m : List S56) (hlm : l.length = m.length) (hl : l.length ≤ 9223372036854775807) (d : Nat) : ∀ (k i : Nat), i ≤ l.length → l.length - i = d → d < k → api_Range.l0 k l m (l.length : Int) (i : Int) = some (eqL rgQ (l.drop i) (m.drop i)) := by
  induction d with
  | zero =>
    intro k i h1 h2 hk
    obtain ⟨k, rfl⟩ : ∃ m, k = m + 1 := ⟨k - 1, by omega⟩
    simp only [api_Range.l0]
    rw [if_neg (by omega), List.drop_of_length_le (by omega), List.drop_of_length_le (by omega)]
    rfl
  | succ d ih =>
    intro k i h1 h2 hk
    obtain ⟨k, rfl⟩ : ∃ m, k = m + 1 := ⟨k - 1, by omega⟩
    have hi : i < l.length := by omega
    have hj : i < m.length := by omega
    simp only [api_Range.l0]
    have e2 : wrap64 ((i : Int) + 1) = ((i + 1 : Nat) : Int) := by unfold wrap64; omega
    have hi2 := ih k (i + 1) (by omega) (by omega) (by omega)
    rw [if_pos (by omega), if_pos (by omega), if_pos (by omega), if_pos (by omega), rd_rgq l i hi, rd_rgq m i hj, eqL_drop rgQ hi hj, e2, hi2]
    obtain ⟨x, hx⟩ : ∃ x, l[i] = x := ⟨_, rfl⟩
    obtain ⟨y, hy⟩ : ∃ y, m[i] = y := ⟨_, rfl⟩
    rw [hx, hy]
    clear hx hy hi2 ih e2 h1 h2 hk hi hj
    unfold rgQ
    by_cases h0 : x.f0 = y.f0
    · by_cases h3 : x.f1 = y.f1
      · rw [if_neg (by simp [h0, h3])]
        simp [h0, h3]
      · rw [if_pos (by simp [h0, h3])]
        simp [h0, h3]
    · rw [if_pos (by simp [h0])]
      simp [h0]
theorem eqrg_any (l m : List S56) (A B : Option Addr) (c d : Nat) (w : World) (hA : k56.C w A l.length l) (hB : k56.C w B m.length m) (hc : l.length ≤ c) (hd : m.length ≤ d) :
    Calls Tryd.prog 48 #[.slice A l.length c, .slice B m.length d] w fun e w' => e = .returned (.bool (eqL rgQ l m)) ∧ Below w.heap.size w w' := by
  have hl : l.length ≤ 9223372036854775807 := hA.2.1
  have e : api_Range.f (l.length + 1) l m = some (eqL rgQ l m) := by
    unfold api_Range.f
    by_cases h : l.length = m.length
    · rw [if_pos (by omega)]
      exact eqrg_l l m h hl l.length (l.length + 1) 0 (by omega) (by omega) (by omega)
    · rw [if_neg (by omega), eqL_len _ h]
  refine (api_Range.calls (l.length + 1) A c l B d m _ w hA hc hB hd e).mono ?_
  rintro e w' ⟨rfl, h⟩
  exact ⟨rfl, h.below⟩
mutual
/-- the same expression -/
def sameRe : Re → Re → Bool
  | ⟨a, s, l⟩, y => (a == y.f0) && (eqL rgQ s y.f1 && sameRl l y.f2)
def sameRl : List Re → List Re → Bool
  | [], [] => true
  | x :: l, y :: m => sameRe x y && sameRl l m
  | [], _ :: _ => false
  | _ :: _, [] => false
end
theorem sameRl_eq : ∀ l m : List Re, sameRl l m = eqL sameRe l m
  | [], [] => by simp only [sameRl, eqL]
  | x :: l, y :: m => by
    simp only [sameRl, eqL]
    rw [sameRl_eq l m]
  | [], _ :: _ => by simp only [sameRl, eqL]
  | _ :: _, [] => by simp only [sameRl, eqL]
def SameRC (x : Re) : Prop := ∀ (y : Re) (w0 W : World) (cs ds : List Value), Below w0.heap.size w0 W → kRe.K w0 x cs → kRe.K w0 y ds →
    Calls Tryd.prog 37 #[.agg cs.toArray, .agg ds.toArray] W fun e W' => e = .returned (.bool (sameRe x y)) ∧ Below W.heap.size W W'
set_option maxHeartbeats 2000000 in
set_option maxRecDepth 100000 in
theorem same_re_go (x : Re) (hx : ∀ z, z ∈ x.f2 → SameRC z) : SameRC x := by
  intro y w0 W cs ds hB hK hK2
  obtain ⟨A1, c1, A2, c2, rfl, l1, g1, l2, g2⟩ := k48_open hK
  obtain ⟨B1, d1, B2, d2, rfl, m1, h1, m2, h2⟩ := k48_open hK2
  obtain ⟨res, hres⟩ : ∃ r, sameRe x y = r := ⟨_, rfl⟩
  have hv : sameRe x y = ((x.f0 == y.f0) && (eqL rgQ x.f1 y.f1 && eqL sameRe x.f2 y.f2)) := by
    cases x
    rw [sameRe, sameRl_eq]
  rw [hres]
  have HR : Aside0 (((x.f0 == y.f0) && (eqL rgQ x.f1 y.f1 && eqL sameRe x.f2 y.f2)) = res) := ⟨hv.symm.trans hres⟩
  have HG := Aside0.mk (And.intro (And.intro g1 h1) (And.intro g2 h2))
  have HM := Aside0.mk (And.intro (And.intro l1 m1) (And.intro l2 m2))
  have HX := Aside0.mk hx
  have HB := Aside0.mk hB
  clear hB hK hK2 hx g1 g2 h1 h2 l1 l2 m1 m2 hres hv
  by_cases c0 : x.f0 = y.f0
  · have hr := HR.out
    rw [beq_iff_eq.2 c0, Bool.true_and] at hr
    have HR2 := Aside0.mk hr
    clear hr HR
    obtain ⟨w1, hw1⟩ : ∃ w1, (W.alloc (.cells #[.int .i64 x.f0, .slice A1 x.f1.length c1, .slice A2 x.f2.length c2] 48)).alloc (.cells #[.int .i64 y.f0, .slice B1 y.f1.length d1, .slice B2 y.f2.length d2] 48) = w1 := ⟨_, rfl⟩
    have hB1 : Below W.heap.size W w1 := hw1 ▸ below_alloc (below1 W _) _
    have hn1 : w1.heap[W.heap.size]? = some (.cells #[.int .i64 x.f0, .slice A1 x.f1.length c1, .slice A2 x.f2.length c2] 48 (0, 0)) := by rw [← hw1]; exact blk_alloc (blk_new _ _) _
    have hn2 : w1.heap[W.heap.size + 1]? = some (.cells #[.int .i64 y.f0, .slice B1 y.f1.length d1, .slice B2 y.f2.length d2] 48 (0, 0)) := by
      have h := blk_new (W.alloc (.cells #[.int .i64 x.f0, .slice A1 x.f1.length c1, .slice A2 x.f2.length c2] 48)) (.cells #[.int .i64 y.f0, .slice B1 y.f1.length d1, .slice B2 y.f2.length d2] 48)
      rw [hw1] at h
      simpa using h
    have HN1 := Aside0.mk hn1
    have HN2 := Aside0.mk hn2
    have HB1 := Aside0.mk hB1
    have hee : (x.f0 == y.f0) = true := beq_iff_eq.2 c0
    have y0 : w1.cell? ⟨W.heap.size, 0, none⟩ = some (.int .i64 x.f0) := (blk_cell hn1 0).trans rfl
    have z0 : w1.cell? ⟨W.heap.size + 1, 0, none⟩ = some (.int .i64 y.f0) := (blk_cell hn2 0).trans rfl
    have y1 : w1.cell? ⟨W.heap.size, 1, none⟩ = some (.slice A1 x.f1.length c1) := (blk_cell hn1 1).trans rfl
    have z1 : w1.cell? ⟨W.heap.size + 1, 1, none⟩ = some (.slice B1 y.f1.length d1) := (blk_cell hn2 1).trans rfl
    clear hB1 hn1 hn2 c0
    go_enter Tryd.func37, Tryd.ntmps37
    go_wp2_with fail
    clear hw1
    have q1 := join_below HB.out HB1.out
    refine (eqrg_any x.f1 y.f1 A1 B1 c1 d1 _ (Kd.C_below HG.out.1.1 q1) (Kd.C_below HG.out.1.2 q1) HM.out.1.1 HM.out.1.2).mono ?_
    rintro e w2 ⟨rfl, hb⟩
    have HB2 := Aside0.mk (join_below HB1.out hb)
    have hn1 := blk_below HN1.out hb
    have hn2 := blk_below HN2.out hb
    have y2 : w2.cell? ⟨W.heap.size, 2, none⟩ = some (.slice A2 x.f2.length c2) := (blk_cell hn1 2).trans rfl
    have z2 : w2.cell? ⟨W.heap.size + 1, 2, none⟩ = some (.slice B2 y.f2.length d2) := (blk_cell hn2 2).trans rfl
    clear hb q1 hn1 hn2
    have hr := HR2.out
    cases hq : eqL rgQ x.f1 y.f1
    · rw [hq, Bool.false_and] at hr
      have HF := Aside0.mk hr
      clear hr hq
      go_wp2
      go_ret
      exact ⟨by rw [← HF.out]; rfl, HB2.out⟩
    · rw [hq, Bool.true_and] at hr
      have HF := Aside0.mk hr
      clear hr hq
      go_wp2_with fail
      refine (res_equal sameRe x.f2 y.f2 A2 B2 c2 d2 w0 _ HG.out.2.1 HG.out.2.2 (join_below HB.out HB2.out) (fun a b cs ds W' ha hb hB' hK hK2 => HX.out a ha b w0 W' cs ds hB' hK hK2)).mono ?_
      rintro e w3 ⟨rfl, hb⟩
      have HB3 := Aside0.mk (join_below HB2.out hb)
      clear hb
      go_wp2
      go_ret
      exact ⟨by rw [← HF.out]; rfl, HB3.out⟩
  · have hr := HR.out
    rw [beq_eq_false_iff_ne.2 c0, Bool.false_and] at hr
    have HF := Aside0.mk hr
    have hee : (x.f0 == y.f0) = false := beq_eq_false_iff_ne.2 c0
    clear hr HR c0
    go_enter Tryd.func37, Tryd.ntmps37
    go_wp2
    go_ret
    exact ⟨by rw [← HF.out]; rfl, below_alloc (below1 _ _) _⟩
theorem same_re_all : ∀ (N : Nat) (x : Re), SizeOf.sizeOf x < N → SameRC x
  | 0, x, h => absurd h (Nat.not_lt_zero _)
  | N + 1, x, h => same_re_go x (fun y hy => same_re_all N y (by
      have h1 := List.sizeOf_lt_of_mem hy
      have h2 : SizeOf.sizeOf x.f2 < SizeOf.sizeOf x := by
        cases x
        simp
        omega
      omega))
theorem same_re (x : Re) : SameRC x := same_re_all (SizeOf.sizeOf x + 1) x (Nat.lt_succ_self _)
end Go.Proofs.YthdfmbmbjpmlaaaDoor.Rn
/- gram.SamePat, gram.Same. -/
set_option linter.unusedVariables false
set_option linter.unusedSimpArgs false
namespace Go.Proofs.YthdfmbmbjpmlaaaDoor.Rn
open Go Go.RowKit Go.Proofs.YthdfmbmbjpmlaaaDoorW.PrintWords Go.Proofs.YthdfmbmbjpmlaaaDoorW.PrintLast Go.Proofs.YthdfmbmbjpmlaaaDoorW.PrintMore
def txQ (a b : ByteArray) : Bool := decide (a = b)
theorem eqtx_l (l m : List ByteArray) (hlm : l.length = m.length) (hl : l.length ≤ 9223372036854775807) (d : Nat) : ∀ (k i : Nat), i ≤ l.length → l.length - i = d → d < k → slices_Equal_string_string.l0 k l m (l.length : Int) (i : Int) = some (eqL txQ (l.drop i) (m.drop i)) := by
  induction d with
  | zero =>
    intro k i h1 h2 hk
    obtain ⟨k, rfl⟩ : ∃ m, k = m + 1 := ⟨k - 1, by omega⟩
    simp only [slices_Equal_string_string.l0]
    rw [if_neg (by omega), List.drop_of_length_le (by omega), List.drop_of_length_le (by omega)]
    rfl
  | succ d ih =>
    intro k i h1 h2 hk
    obtain ⟨k, rfl⟩ : ∃ m, k = m + 1 := ⟨k - 1, by omega⟩
    have hi : i < l.length := by omega
    have hj : i < m.length := by omega
    simp only [slices_Equal_string_string.l0]
    have e2 : wrap64 ((i : Int) + 1) = ((i + 1 : Nat) : Int) := by unfold wrap64; omega
    have hi2 := ih k (i + 1) (by omega) (by omega) (by omega)
    rw [if_pos (by omega), if_pos (by omega), if_pos (by omega), if_pos (by omega), rdOf_at l i hi, rdOf_at m i hj, eqL_drop txQ hi hj, e2, hi2]
    obtain ⟨x, hx⟩ : ∃ x, l[i] = x := ⟨_, rfl⟩
    obtain ⟨y, hy⟩ : ∃ y, m[i] = y := ⟨_, rfl⟩
    rw [hx, hy]
    clear hx hy hi2 ih e2 h1 h2 hk hi hj
    unfold txQ
    by_cases h0 : x = y
    · subst h0
      simp
    · have h1 : ¬ (x.toList = y.toList) := fun e => h0 (text_ext e)
      simp [h0, h1]
theorem eqtx_any (l m : List ByteArray) (A B : Option Addr) (c d : Nat) (w : World) (hA : Kd.string.C w A l.length l) (hB : Kd.string.C w B m.length m) (hc : l.length ≤ c) (hd : m.length ≤ d) :
    Calls Tryd.prog 24 #[.slice A l.length c, .slice B m.length d] w fun e w' => e = .returned (.bool (eqL txQ l m)) ∧ Below w.heap.size w w' := by
  have hl : l.length ≤ 9223372036854775807 := hA.2.1
  have e : slices_Equal_string_string.f (l.length + 1) l m = some (eqL txQ l m) := by
    unfold slices_Equal_string_string.f
    by_cases h : l.length = m.length
    · rw [if_pos (by omega)]
      exact eqtx_l l m h hl l.length (l.length + 1) 0 (by omega) (by omega) (by omega)
    · rw [if_neg (by omega), eqL_len _ h]
  refine (slices_Equal_string_string.calls (l.length + 1) A c l B d m _ w hA hc hB hd e).mono ?_
  rintro e w' ⟨rfl, h⟩
  exact ⟨rfl, h.below⟩
mutual
/-- the same pattern -/
def samePt : Pt → Pt → Bool
  | ⟨a, s, t, l⟩, y => (a == y.f0) && (eqL txQ s y.f1 && (eqL txQ t y.f2 && samePl l y.f3))
def samePl : List Pt → List Pt → Bool
  | [], [] => true
  | x :: l, y :: m => samePt x y && samePl l m
  | [], _ :: _ => false
  | _ :: _, [] => false
end
theorem samePl_eq : ∀ l m : List Pt, samePl l m = eqL samePt l m
  | [], [] => by simp only [samePl, eqL]
  | x :: l, y :: m => by
    simp only [samePl, eqL]
    rw [samePl_eq l m]
  | [], _ :: _ => by simp only [samePl, eqL]
  | _ :: _, [] => by simp only [samePl, eqL]
theorem samePt_is (x y : Pt) : samePt x y = ((x.f0 == y.f0) && (eqL txQ x.f1 y.f1 && (eqL txQ x.f2 y.f2 && eqL samePt x.f3 y.f3))) := by
  cases x
  rw [samePt, samePl_eq]
def SamePC (x : Pt) : Prop := ∀ (y : Pt) (w0 W : World) (cs ds : List Value), Below w0.heap.size w0 W → kPt.K w0 x cs → kPt.K w0 y ds →
    Calls Tryd.prog 13 #[.agg cs.toArray, .agg ds.toArray] W fun e W' => e = .returned (.bool (samePt x y)) ∧ Below W.heap.size W W'
set_option maxHeartbeats 2000000 in
set_option maxRecDepth 100000 in
theorem same_pt_go (x : Pt) (hx : ∀ z, z ∈ x.f3 → SamePC z) (y : Pt) (w0 W : World) (cs ds : List Value) (hB : Below w0.heap.size w0 W) (hK : k37.K w0 x cs) (hK2 : k37.K w0 y ds) :
    Calls Tryd.prog 13 #[.agg cs.toArray, .agg ds.toArray] W fun e W' => e = .returned (.bool (samePt x y)) ∧ Below W.heap.size W W' := by
  obtain ⟨A1, c1, A2, c2, A3, c3, rfl, l1, g1, l2, g2, l3, g3⟩ := k37_open hK
  obtain ⟨B1, d1, B2, d2, B3, d3, rfl, m1, h1, m2, h2, m3, h3⟩ := k37_open hK2
  obtain ⟨res, hres⟩ : ∃ r, samePt x y = r := ⟨_, rfl⟩
  have hv : samePt x y = ((x.f0 == y.f0) && ((eqL txQ x.f1 y.f1) && ((eqL txQ x.f2 y.f2) && (eqL samePt x.f3 y.f3)))) := samePt_is x y
  rw [hres]
  have HR : Aside0 (((x.f0 == y.f0) && ((eqL txQ x.f1 y.f1) && ((eqL txQ x.f2 y.f2) && (eqL samePt x.f3 y.f3)))) = res) := ⟨hv.symm.trans hres⟩
  have L1 := Aside0.mk l1
  have G1 := Aside0.mk g1
  have L2 := Aside0.mk l2
  have G2 := Aside0.mk g2
  have L3 := Aside0.mk l3
  have G3 := Aside0.mk g3
  have M1 := Aside0.mk m1
  have H1 := Aside0.mk h1
  have M2 := Aside0.mk m2
  have H2 := Aside0.mk h2
  have M3 := Aside0.mk m3
  have H3 := Aside0.mk h3
  have HB := Aside0.mk hB
  clear hB hK hK2 hres hv l1 g1 l2 g2 l3 g3 m1 h1 m2 h2 m3 h3
  by_cases q0 : (x.f0 == y.f0) = true
  rotate_left
  · have hr := HR.out
    rw [Bool.not_eq_true] at q0
    rw [q0, Bool.false_and] at hr
    have HF := Aside0.mk hr
    clear hr HR
    go_enter Tryd.func13, Tryd.ntmps13
    go_wp2
    go_ret
    exact ⟨by rw [← HF.out]; rfl, below_alloc (below1 _ _) _⟩
  have hr := HR.out
  rw [q0, Bool.true_and] at hr
  have HR2 := Aside0.mk hr
  clear hr HR
  obtain ⟨w1, hw1⟩ : ∃ w1, (W.alloc (.cells #[.int .i64 x.f0, .slice A1 x.f1.length c1, .slice A2 x.f2.length c2, .slice A3 x.f3.length c3] 37)).alloc (.cells #[.int .i64 y.f0, .slice B1 y.f1.length d1, .slice B2 y.f2.length d2, .slice B3 y.f3.length d3] 37) = w1 := ⟨_, rfl⟩
  have HB1 : Aside0 (Below W.heap.size W w1) := ⟨hw1 ▸ below_alloc (below1 W _) _⟩
  have hn1 : w1.heap[W.heap.size]? = some (.cells #[.int .i64 x.f0, .slice A1 x.f1.length c1, .slice A2 x.f2.length c2, .slice A3 x.f3.length c3] 37 (0, 0)) := by rw [← hw1]; exact blk_alloc (blk_new _ _) _
  have hn2 : w1.heap[W.heap.size + 1]? = some (.cells #[.int .i64 y.f0, .slice B1 y.f1.length d1, .slice B2 y.f2.length d2, .slice B3 y.f3.length d3] 37 (0, 0)) := by
    have h := blk_new (W.alloc (.cells #[.int .i64 x.f0, .slice A1 x.f1.length c1, .slice A2 x.f2.length c2, .slice A3 x.f3.length c3] 37)) (.cells #[.int .i64 y.f0, .slice B1 y.f1.length d1, .slice B2 y.f2.length d2, .slice B3 y.f3.length d3] 37)
    rw [hw1] at h
    simpa using h
  have HN1 := Aside0.mk hn1
  have HN2 := Aside0.mk hn2
  have y0 : w1.cell? ⟨W.heap.size, 0, none⟩ = some (.int .i64 x.f0) := (blk_cell hn1 0).trans rfl
  have z0 : w1.cell? ⟨W.heap.size + 1, 0, none⟩ = some (.int .i64 y.f0) := (blk_cell hn2 0).trans rfl
  have y1 : w1.cell? ⟨W.heap.size, 1, none⟩ = some (.slice A1 x.f1.length c1) := (blk_cell hn1 1).trans rfl
  have z1 : w1.cell? ⟨W.heap.size + 1, 1, none⟩ = some (.slice B1 y.f1.length d1) := (blk_cell hn2 1).trans rfl
  have y2 : w1.cell? ⟨W.heap.size, 2, none⟩ = some (.slice A2 x.f2.length c2) := (blk_cell hn1 2).trans rfl
  have z2 : w1.cell? ⟨W.heap.size + 1, 2, none⟩ = some (.slice B2 y.f2.length d2) := (blk_cell hn2 2).trans rfl
  have y3 : w1.cell? ⟨W.heap.size, 3, none⟩ = some (.slice A3 x.f3.length c3) := (blk_cell hn1 3).trans rfl
  have z3 : w1.cell? ⟨W.heap.size + 1, 3, none⟩ = some (.slice B3 y.f3.length d3) := (blk_cell hn2 3).trans rfl
  clear hn1 hn2
  go_enter Tryd.func13, Tryd.ntmps13
  go_wp2_with fail
  clear hw1
  have qb := join_below HB.out HB1.out
  refine (eqtx_any x.f1 y.f1 A1 B1 c1 d1 _ (Kd.C_below G1.out qb) (Kd.C_below H1.out qb) L1.out M1.out).mono ?_
  rintro e w2 ⟨rfl, hb⟩
  have HB2 := Aside0.mk (join_below HB1.out hb)
  have hr := HR2.out
  have HN1 := Aside0.mk (blk_below HN1.out hb)
  have HN2 := Aside0.mk (blk_below HN2.out hb)
  have y2 : w2.cell? ⟨W.heap.size, 2, none⟩ = some (.slice A2 x.f2.length c2) := (blk_cell HN1.out 2).trans rfl
  have z2 : w2.cell? ⟨W.heap.size + 1, 2, none⟩ = some (.slice B2 y.f2.length d2) := (blk_cell HN2.out 2).trans rfl
  clear hb qb
  cases hq : eqL txQ x.f1 y.f1
  · rw [hq, Bool.false_and] at hr
    have HF := Aside0.mk hr
    clear hr hq
    go_wp2
    go_ret
    exact ⟨by rw [← HF.out]; rfl, HB2.out⟩
  · rw [hq, Bool.true_and] at hr
    have HR2 := Aside0.mk hr
    clear hr hq
    go_wp2_with fail
    have qb := join_below HB.out HB2.out
    refine (eqtx_any x.f2 y.f2 A2 B2 c2 d2 _ (Kd.C_below G2.out qb) (Kd.C_below H2.out qb) L2.out M2.out).mono ?_
    rintro e w3 ⟨rfl, hb⟩
    have HB3 := Aside0.mk (join_below HB2.out hb)
    have hr := HR2.out
    have HN1 := Aside0.mk (blk_below HN1.out hb)
    have HN2 := Aside0.mk (blk_below HN2.out hb)
    have y3 : w3.cell? ⟨W.heap.size, 3, none⟩ = some (.slice A3 x.f3.length c3) := (blk_cell HN1.out 3).trans rfl
    have z3 : w3.cell? ⟨W.heap.size + 1, 3, none⟩ = some (.slice B3 y.f3.length d3) := (blk_cell HN2.out 3).trans rfl
    clear hb qb
    cases hq : eqL txQ x.f2 y.f2
    · rw [hq, Bool.false_and] at hr
      have HF := Aside0.mk hr
      clear hr hq
      go_wp2
      go_ret
      exact ⟨by rw [← HF.out]; rfl, HB3.out⟩
    · rw [hq, Bool.true_and] at hr
      have HR2 := Aside0.mk hr
      clear hr hq
      go_wp2_with fail
      have qb := join_below HB.out HB3.out
      refine (pats_equal samePt x.f3 y.f3 A3 B3 c3 d3 w0 _ G3.out H3.out qb (fun a b cs ds W' ha hb hB' hK hK2 => hx a ha b w0 W' cs ds hB' hK hK2)).mono ?_
      rintro e w4 ⟨rfl, hb⟩
      have HB4 := Aside0.mk (join_below HB3.out hb)
      have hr := HR2.out
      have HF := Aside0.mk hr
      clear hr hb qb
      go_wp2
      go_ret
      exact ⟨by rw [← HF.out]; rfl, HB4.out⟩
theorem same_pt_all : ∀ (N : Nat) (x : Pt), SizeOf.sizeOf x < N → SamePC x
  | 0, x, h => absurd h (Nat.not_lt_zero _)
  | N + 1, x, h => same_pt_go x (fun y hy => same_pt_all N y (by
      have h1 := List.sizeOf_lt_of_mem hy
      have h2 : SizeOf.sizeOf x.f3 < SizeOf.sizeOf x := by
        cases x
        simp
        omega
      omega))
theorem same_pt (x : Pt) : SamePC x := same_pt_all (SizeOf.sizeOf x + 1) x (Nat.lt_succ_self _)
end Go.Proofs.YthdfmbmbjpmlaaaDoor.Rn
/- gram.Same. -/
set_option linter.unusedVariables false
set_option linter.unusedSimpArgs false
namespace Go.Proofs.YthdfmbmbjpmlaaaDoor.Rn
open Go Go.RowKit Go.Proofs.YthdfmbmbjpmlaaaDoorW.PrintWords Go.Proofs.YthdfmbmbjpmlaaaDoorW.PrintLast Go.Proofs.YthdfmbmbjpmlaaaDoorW.PrintMore
set_option maxHeartbeats 1000000 in
set_option maxRecDepth 100000 in
theorem toks_equal (q : S50 → S50 → Bool) (xs ys : List S50) (A B : Option Addr) (c d : Nat) (w0 w : World) (hA : k50.C w0 A xs.length xs) (hB : k50.C w0 B ys.length ys) (hw : Below w0.heap.size w0 w)
    (hq : ∀ x y cs ds W, x ∈ xs → y ∈ ys → Below w0.heap.size w0 W → k50.K w0 x cs → k50.K w0 y ds → Calls Tryd.prog 36 #[.agg cs.toArray, .agg ds.toArray] W fun e W' => e = .returned (.bool (q x y)) ∧ Below W.heap.size W W') :
    Calls Tryd.prog 35 #[.slice A xs.length c, .slice B ys.length d, .func (.func 36) #[] #[]] w fun e W' => e = .returned (.bool (eqL q xs ys)) ∧ Below w.heap.size w W' := by
  have hl : xs.length ≤ 9223372036854775807 := hA.2.1
  have hm : ys.length ≤ 9223372036854775807 := hB.2.1
  obtain ⟨res, hres⟩ : ∃ r, eqL q xs ys = r := ⟨_, rfl⟩
  rw [hres]
  have HA := Aside0.mk hA
  have HC := Aside0.mk hB
  have HQ := Aside0.mk hq
  have HW := Aside0.mk hw
  have HR := Aside0.mk hres
  clear hA hB hq hw hres
  by_cases hlen : xs.length = ys.length
  · have hmm : ((xs.length : Int) != (ys.length : Int)) = false := by rw [hlen]; simp
    have HL := Aside0.mk hlen
    clear hlen
    go_enter Tryd.func35, Tryd.ntmps35
    go_wp2
    go_loopw [17] (fun i W => ∃ k : Nat, i = .int .i64 k ∧ k ≤ xs.length ∧ Aside0 (Below w.heap.size w W) ∧ Aside0 (eqL q (xs.drop k) (ys.drop k) = res)) (fun i _ => xs.length - (intOf i).toNat)
    case atStart => exact ⟨0, rfl, Nat.zero_le _, ⟨Below.refl _ _⟩, ⟨HR.out⟩⟩
    case round =>
      obtain ⟨k, rfl, hkl, HI, HE⟩ := hrel
      by_cases hlt : k < xs.length
      · have hlt2 : k < ys.length := by have := HL.out; omega
        have HN := Aside0.mk (eqL_drop q hlt hlt2)
        have HB0 := Aside0.mk (join_below HW.out HI.out)
        obtain ⟨g, o, rfl, _, hcell⟩ := row_cells HA.out (by omega) (by decide)
        obtain ⟨g2, o2, rfl, _, hcell2⟩ := row_cells HC.out (by omega) (by decide)
        have hx : xs[k]? = some xs[k] := List.getElem?_eq_getElem hlt
        have hy : ys[k]? = some ys[k] := List.getElem?_eq_getElem hlt2
        have HMX := Aside0.mk (List.getElem_mem hlt)
        have HMY := Aside0.mk (List.getElem_mem hlt2)
        generalize xs[k] = x at hx HMX HN
        generalize ys[k] = y at hy HMY HN
        obtain ⟨cs, hcl, hK, hcc⟩ := hcell k x hx
        obtain ⟨ds, hdl, hK2, hcd⟩ := hcell2 k y hy
        have HK := Aside0.mk hK
        have HK2 := Aside0.mk hK2
        obtain ⟨A4, c4, A5, c5, rfl, l4, g4, l5, g5⟩ := k50_open hK
        obtain ⟨B4, d4, B5, d5, rfl, m4, h4, m5, h5⟩ := k50_open hK2
        have y0 := cell_after HB0.out (hcc 0 (.string x.f0) rfl)
        have z0 := fun ob => cell_after (below_alloc HB0.out ob) (hcd 0 (.string y.f0) rfl)
        rw [Nat.add_zero] at y0
        simp only [Nat.add_zero] at z0
        have y1 := cell_after HB0.out (hcc 1 (.int .i64 x.f1) rfl)
        have z1 := fun ob => cell_after (below_alloc HB0.out ob) (hcd 1 (.int .i64 y.f1) rfl)
        have y2 := cell_after HB0.out (hcc 2 (.int .i64 x.f2) rfl)
        have z2 := fun ob => cell_after (below_alloc HB0.out ob) (hcd 2 (.int .i64 y.f2) rfl)
        have y3 := cell_after HB0.out (hcc 3 (.int .i64 x.f3.f0) rfl)
        have z3 := fun ob => cell_after (below_alloc HB0.out ob) (hcd 3 (.int .i64 y.f3.f0) rfl)
        have y4 := cell_after HB0.out (hcc 4 (.slice A4 x.f3.f1.length c4) rfl)
        have z4 := fun ob => cell_after (below_alloc HB0.out ob) (hcd 4 (.slice B4 y.f3.f1.length d4) rfl)
        have y5 := cell_after HB0.out (hcc 5 (.slice A5 x.f3.f2.length c5) rfl)
        have z5 := fun ob => cell_after (below_alloc HB0.out ob) (hcd 5 (.slice B5 y.f3.f2.length d5) rfl)
        simp only [show k50.sz = 6 from rfl] at y0 z0 y1 z1 y2 z2 y3 z3 y4 z4 y5 z5
        clear hcell hcc hcell2 hcd hx hy hK hK2 hcl hdl
        go_wp2_with fail
        refine (HQ.out x y _ _ _ HMX.out HMY.out (below_alloc (below_alloc HB0.out _) _) HK.out HK2.out).mono ?_
        rintro e w2 ⟨rfl, hb⟩
        have HI2 := Aside0.mk (join_below HI.out (join_below (below_alloc (below1 _ _) _) hb))
        clear hb
        have he := HE.out
        rw [HN.out] at he
        cases hqq : q x y
        · rw [hqq, Bool.false_and] at he
          have HF := Aside0.mk he
          clear he hqq
          go_wp2
          go_ret
          exact ⟨by rw [← HF.out]; rfl, HI2.out⟩
        · rw [hqq, Bool.true_and] at he
          have HF := Aside0.mk he
          clear he hqq
          go_wp2
          go_roundw
          case rel => exact ⟨k + 1, by go_num, by omega, HI2, HF⟩
          case measure => simp [intOf]; omega
      · have he := HE.out
        rw [List.drop_of_length_le (by omega), List.drop_of_length_le (by have := HL.out; omega)] at he
        have HF := Aside0.mk he
        clear he
        go_wp2
        go_ret
        exact ⟨by rw [← HF.out]; rfl, HI.out⟩
  · have hmm : ((xs.length : Int) != (ys.length : Int)) = true := by simp; omega
    have HF := Aside0.mk (eqL_len q hlen)
    have hne : ¬ ((xs.length : Int) = (ys.length : Int)) := by omega
    clear hlen
    go_enter Tryd.func35, Tryd.ntmps35
    go_wp2
    go_ret
    exact ⟨by rw [← HR.out, HF.out]; rfl, Below.refl _ _⟩
set_option maxHeartbeats 1000000 in
set_option maxRecDepth 100000 in
theorem ruls_equal (q : S32 → S32 → Bool) (xs ys : List S32) (A B : Option Addr) (c d : Nat) (w0 w : World) (hA : k32.C w0 A xs.length xs) (hB : k32.C w0 B ys.length ys) (hw : Below w0.heap.size w0 w)
    (hq : ∀ x y cs ds W, x ∈ xs → y ∈ ys → Below w0.heap.size w0 W → k32.K w0 x cs → k32.K w0 y ds → Calls Tryd.prog 39 #[.agg cs.toArray, .agg ds.toArray] W fun e W' => e = .returned (.bool (q x y)) ∧ Below W.heap.size W W') :
    Calls Tryd.prog 38 #[.slice A xs.length c, .slice B ys.length d, .func (.func 39) #[] #[]] w fun e W' => e = .returned (.bool (eqL q xs ys)) ∧ Below w.heap.size w W' := by
  have hl : xs.length ≤ 9223372036854775807 := hA.2.1
  have hm : ys.length ≤ 9223372036854775807 := hB.2.1
  obtain ⟨res, hres⟩ : ∃ r, eqL q xs ys = r := ⟨_, rfl⟩
  rw [hres]
  have HA := Aside0.mk hA
  have HC := Aside0.mk hB
  have HQ := Aside0.mk hq
  have HW := Aside0.mk hw
  have HR := Aside0.mk hres
  clear hA hB hq hw hres
  by_cases hlen : xs.length = ys.length
  · have hmm : ((xs.length : Int) != (ys.length : Int)) = false := by rw [hlen]; simp
    have HL := Aside0.mk hlen
    clear hlen
    go_enter Tryd.func38, Tryd.ntmps38
    go_wp2
    go_loopw [17] (fun i W => ∃ k : Nat, i = .int .i64 k ∧ k ≤ xs.length ∧ Aside0 (Below w.heap.size w W) ∧ Aside0 (eqL q (xs.drop k) (ys.drop k) = res)) (fun i _ => xs.length - (intOf i).toNat)
    case atStart => exact ⟨0, rfl, Nat.zero_le _, ⟨Below.refl _ _⟩, ⟨HR.out⟩⟩
    case round =>
      obtain ⟨k, rfl, hkl, HI, HE⟩ := hrel
      by_cases hlt : k < xs.length
      · have hlt2 : k < ys.length := by have := HL.out; omega
        have HN := Aside0.mk (eqL_drop q hlt hlt2)
        have HB0 := Aside0.mk (join_below HW.out HI.out)
        obtain ⟨g, o, rfl, _, hcell⟩ := row_cells HA.out (by omega) (by decide)
        obtain ⟨g2, o2, rfl, _, hcell2⟩ := row_cells HC.out (by omega) (by decide)
        have hx : xs[k]? = some xs[k] := List.getElem?_eq_getElem hlt
        have hy : ys[k]? = some ys[k] := List.getElem?_eq_getElem hlt2
        have HMX := Aside0.mk (List.getElem_mem hlt)
        have HMY := Aside0.mk (List.getElem_mem hlt2)
        generalize xs[k] = x at hx HMX HN
        generalize ys[k] = y at hy HMY HN
        obtain ⟨cs, hcl, hK, hcc⟩ := hcell k x hx
        obtain ⟨ds, hdl, hK2, hcd⟩ := hcell2 k y hy
        have HK := Aside0.mk hK
        have HK2 := Aside0.mk hK2
        obtain ⟨A2, c2, rfl, l2, g2⟩ := k32_open hK
        obtain ⟨B2, d2, rfl, m2, h2⟩ := k32_open hK2
        have y0 := cell_after HB0.out (hcc 0 (.int .i64 x.f0) rfl)
        have z0 := fun ob => cell_after (below_alloc HB0.out ob) (hcd 0 (.int .i64 y.f0) rfl)
        rw [Nat.add_zero] at y0
        simp only [Nat.add_zero] at z0
        have y1 := cell_after HB0.out (hcc 1 (.bool x.f1) rfl)
        have z1 := fun ob => cell_after (below_alloc HB0.out ob) (hcd 1 (.bool y.f1) rfl)
        have y2 := cell_after HB0.out (hcc 2 (.slice A2 x.f2.length c2) rfl)
        have z2 := fun ob => cell_after (below_alloc HB0.out ob) (hcd 2 (.slice B2 y.f2.length d2) rfl)
        simp only [show k32.sz = 3 from rfl] at y0 z0 y1 z1 y2 z2
        clear hcell hcc hcell2 hcd hx hy hK hK2 hcl hdl
        go_wp2_with fail
        refine (HQ.out x y _ _ _ HMX.out HMY.out (below_alloc (below_alloc HB0.out _) _) HK.out HK2.out).mono ?_
        rintro e w2 ⟨rfl, hb⟩
        have HI2 := Aside0.mk (join_below HI.out (join_below (below_alloc (below1 _ _) _) hb))
        clear hb
        have he := HE.out
        rw [HN.out] at he
        cases hqq : q x y
        · rw [hqq, Bool.false_and] at he
          have HF := Aside0.mk he
          clear he hqq
          go_wp2
          go_ret
          exact ⟨by rw [← HF.out]; rfl, HI2.out⟩
        · rw [hqq, Bool.true_and] at he
          have HF := Aside0.mk he
          clear he hqq
          go_wp2
          go_roundw
          case rel => exact ⟨k + 1, by go_num, by omega, HI2, HF⟩
          case measure => simp [intOf]; omega
      · have he := HE.out
        rw [List.drop_of_length_le (by omega), List.drop_of_length_le (by have := HL.out; omega)] at he
        have HF := Aside0.mk he
        clear he
        go_wp2
        go_ret
        exact ⟨by rw [← HF.out]; rfl, HI.out⟩
  · have hmm : ((xs.length : Int) != (ys.length : Int)) = true := by simp; omega
    have HF := Aside0.mk (eqL_len q hlen)
    have hne : ¬ ((xs.length : Int) = (ys.length : Int)) := by omega
    clear hlen
    go_enter Tryd.func38, Tryd.ntmps38
    go_wp2
    go_ret
    exact ⟨by rw [← HR.out, HF.out]; rfl, Below.refl _ _⟩
set_option maxHeartbeats 1000000 in
set_option maxRecDepth 100000 in
theorem stps_equal (q : S39 → S39 → Bool) (xs ys : List S39) (A B : Option Addr) (c d : Nat) (w0 w : World) (hA : k39.C w0 A xs.length xs) (hB : k39.C w0 B ys.length ys) (hw : Below w0.heap.size w0 w)
    (hq : ∀ x y cs ds W, x ∈ xs → y ∈ ys → Below w0.heap.size w0 W → k39.K w0 x cs → k39.K w0 y ds → Calls Tryd.prog 51 #[.agg cs.toArray, .agg ds.toArray] W fun e W' => e = .returned (.bool (q x y)) ∧ Below W.heap.size W W') :
    Calls Tryd.prog 50 #[.slice A xs.length c, .slice B ys.length d, .func (.func 51) #[] #[]] w fun e W' => e = .returned (.bool (eqL q xs ys)) ∧ Below w.heap.size w W' := by
  have hl : xs.length ≤ 9223372036854775807 := hA.2.1
  have hm : ys.length ≤ 9223372036854775807 := hB.2.1
  obtain ⟨res, hres⟩ : ∃ r, eqL q xs ys = r := ⟨_, rfl⟩
  rw [hres]
  have HA := Aside0.mk hA
  have HC := Aside0.mk hB
  have HQ := Aside0.mk hq
  have HW := Aside0.mk hw
  have HR := Aside0.mk hres
  clear hA hB hq hw hres
  by_cases hlen : xs.length = ys.length
  · have hmm : ((xs.length : Int) != (ys.length : Int)) = false := by rw [hlen]; simp
    have HL := Aside0.mk hlen
    clear hlen
    go_enter Tryd.func50, Tryd.ntmps50
    go_wp2
    go_loopw [17] (fun i W => ∃ k : Nat, i = .int .i64 k ∧ k ≤ xs.length ∧ Aside0 (Below w.heap.size w W) ∧ Aside0 (eqL q (xs.drop k) (ys.drop k) = res)) (fun i _ => xs.length - (intOf i).toNat)
    case atStart => exact ⟨0, rfl, Nat.zero_le _, ⟨Below.refl _ _⟩, ⟨HR.out⟩⟩
    case round =>
      obtain ⟨k, rfl, hkl, HI, HE⟩ := hrel
      by_cases hlt : k < xs.length
      · have hlt2 : k < ys.length := by have := HL.out; omega
        have HN := Aside0.mk (eqL_drop q hlt hlt2)
        have HB0 := Aside0.mk (join_below HW.out HI.out)
        obtain ⟨g, o, rfl, _, hcell⟩ := row_cells HA.out (by omega) (by decide)
        obtain ⟨g2, o2, rfl, _, hcell2⟩ := row_cells HC.out (by omega) (by decide)
        have hx : xs[k]? = some xs[k] := List.getElem?_eq_getElem hlt
        have hy : ys[k]? = some ys[k] := List.getElem?_eq_getElem hlt2
        have HMX := Aside0.mk (List.getElem_mem hlt)
        have HMY := Aside0.mk (List.getElem_mem hlt2)
        generalize xs[k] = x at hx HMX HN
        generalize ys[k] = y at hy HMY HN
        obtain ⟨cs, hcl, hK, hcc⟩ := hcell k x hx
        obtain ⟨ds, hdl, hK2, hcd⟩ := hcell2 k y hy
        have HK := Aside0.mk hK
        have HK2 := Aside0.mk hK2
        obtain ⟨A0, c0, A2, c2, A3, c3, A4, c4, rfl, l0, g0, l2, g2, l3, g3, l4, g4⟩ := k39_open hK
        obtain ⟨B0, d0, B2, d2, B3, d3, B4, d4, rfl, m0, h0, m2, h2, m3, h3, m4, h4⟩ := k39_open hK2
        have y0 := cell_after HB0.out (hcc 0 (.slice A0 x.f0.length c0) rfl)
        have z0 := fun ob => cell_after (below_alloc HB0.out ob) (hcd 0 (.slice B0 y.f0.length d0) rfl)
        rw [Nat.add_zero] at y0
        simp only [Nat.add_zero] at z0
        have y1 := cell_after HB0.out (hcc 1 (.int .i64 x.f1.f0) rfl)
        have z1 := fun ob => cell_after (below_alloc HB0.out ob) (hcd 1 (.int .i64 y.f1.f0) rfl)
        have y2 := cell_after HB0.out (hcc 2 (.slice A2 x.f1.f1.length c2) rfl)
        have z2 := fun ob => cell_after (below_alloc HB0.out ob) (hcd 2 (.slice B2 y.f1.f1.length d2) rfl)
        have y3 := cell_after HB0.out (hcc 3 (.slice A3 x.f1.f2.length c3) rfl)
        have z3 := fun ob => cell_after (below_alloc HB0.out ob) (hcd 3 (.slice B3 y.f1.f2.length d3) rfl)
        have y4 := cell_after HB0.out (hcc 4 (.slice A4 x.f1.f3.length c4) rfl)
        have z4 := fun ob => cell_after (below_alloc HB0.out ob) (hcd 4 (.slice B4 y.f1.f3.length d4) rfl)
        simp only [show k39.sz = 5 from rfl] at y0 z0 y1 z1 y2 z2 y3 z3 y4 z4
        clear hcell hcc hcell2 hcd hx hy hK hK2 hcl hdl
        go_wp2_with fail
        refine (HQ.out x y _ _ _ HMX.out HMY.out (below_alloc (below_alloc HB0.out _) _) HK.out HK2.out).mono ?_
        rintro e w2 ⟨rfl, hb⟩
        have HI2 := Aside0.mk (join_below HI.out (join_below (below_alloc (below1 _ _) _) hb))
        clear hb
        have he := HE.out
        rw [HN.out] at he
        cases hqq : q x y
        · rw [hqq, Bool.false_and] at he
          have HF := Aside0.mk he
          clear he hqq
          go_wp2
          go_ret
          exact ⟨by rw [← HF.out]; rfl, HI2.out⟩
        · rw [hqq, Bool.true_and] at he
          have HF := Aside0.mk he
          clear he hqq
          go_wp2
          go_roundw
          case rel => exact ⟨k + 1, by go_num, by omega, HI2, HF⟩
          case measure => simp [intOf]; omega
      · have he := HE.out
        rw [List.drop_of_length_le (by omega), List.drop_of_length_le (by have := HL.out; omega)] at he
        have HF := Aside0.mk he
        clear he
        go_wp2
        go_ret
        exact ⟨by rw [← HF.out]; rfl, HI.out⟩
  · have hmm : ((xs.length : Int) != (ys.length : Int)) = true := by simp; omega
    have HF := Aside0.mk (eqL_len q hlen)
    have hne : ¬ ((xs.length : Int) = (ys.length : Int)) := by omega
    clear hlen
    go_enter Tryd.func50, Tryd.ntmps50
    go_wp2
    go_ret
    exact ⟨by rw [← HR.out, HF.out]; rfl, Below.refl _ _⟩
def sameStp (x y : Stp) : Bool := eqL txQ x.f0 y.f0 && samePt x.f1 y.f1
def sameRul (x y : Rul) : Bool := (x.f0 == y.f0) && ((x.f1 == y.f1) && eqL sameStp x.f2 y.f2)
def sameTok (x y : Tok) : Bool := (x.f0.toList == y.f0.toList) && ((x.f1 == y.f1) && ((x.f2 == y.f2) && sameRe x.f3 y.f3))
set_option maxHeartbeats 2000000 in
set_option maxRecDepth 100000 in
theorem same_stp (x y : Stp) (w0 W : World) (cs ds : List Value) (hB : Below w0.heap.size w0 W) (hK : k39.K w0 x cs) (hK2 : k39.K w0 y ds) :
    Calls Tryd.prog 51 #[.agg cs.toArray, .agg ds.toArray] W fun e W' => e = .returned (.bool (sameStp x y)) ∧ Below W.heap.size W W' := by
  obtain ⟨A0, c0, A2, c2, A3, c3, A4, c4, rfl, l0, g0, l2, g2, l3, g3, l4, g4⟩ := k39_open hK
  obtain ⟨B0, d0, B2, d2, B3, d3, B4, d4, rfl, m0, h0, m2, h2, m3, h3, m4, h4⟩ := k39_open hK2
  obtain ⟨res, hres⟩ : ∃ r, sameStp x y = r := ⟨_, rfl⟩
  have hv : sameStp x y = ((eqL txQ x.f0 y.f0) && (samePt x.f1 y.f1)) := rfl
  rw [hres]
  have HR : Aside0 (((eqL txQ x.f0 y.f0) && (samePt x.f1 y.f1)) = res) := ⟨hv.symm.trans hres⟩
  have L0 := Aside0.mk l0
  have G0 := Aside0.mk g0
  have L2 := Aside0.mk l2
  have G2 := Aside0.mk g2
  have L3 := Aside0.mk l3
  have G3 := Aside0.mk g3
  have L4 := Aside0.mk l4
  have G4 := Aside0.mk g4
  have M0 := Aside0.mk m0
  have H0 := Aside0.mk h0
  have M2 := Aside0.mk m2
  have H2 := Aside0.mk h2
  have M3 := Aside0.mk m3
  have H3 := Aside0.mk h3
  have M4 := Aside0.mk m4
  have H4 := Aside0.mk h4
  have HB := Aside0.mk hB
  clear hB hK hK2 hres hv l0 g0 l2 g2 l3 g3 l4 g4 m0 h0 m2 h2 m3 h3 m4 h4
  have hr := HR.out
  have HR2 := Aside0.mk hr
  clear hr HR
  obtain ⟨w1, hw1⟩ : ∃ w1, (W.alloc (.cells #[.slice A0 x.f0.length c0, .int .i64 x.f1.f0, .slice A2 x.f1.f1.length c2, .slice A3 x.f1.f2.length c3, .slice A4 x.f1.f3.length c4] 39)).alloc (.cells #[.slice B0 y.f0.length d0, .int .i64 y.f1.f0, .slice B2 y.f1.f1.length d2, .slice B3 y.f1.f2.length d3, .slice B4 y.f1.f3.length d4] 39) = w1 := ⟨_, rfl⟩
  have HB1 : Aside0 (Below W.heap.size W w1) := ⟨hw1 ▸ below_alloc (below1 W _) _⟩
  have hn1 : w1.heap[W.heap.size]? = some (.cells #[.slice A0 x.f0.length c0, .int .i64 x.f1.f0, .slice A2 x.f1.f1.length c2, .slice A3 x.f1.f2.length c3, .slice A4 x.f1.f3.length c4] 39 (0, 0)) := by rw [← hw1]; exact blk_alloc (blk_new _ _) _
  have hn2 : w1.heap[W.heap.size + 1]? = some (.cells #[.slice B0 y.f0.length d0, .int .i64 y.f1.f0, .slice B2 y.f1.f1.length d2, .slice B3 y.f1.f2.length d3, .slice B4 y.f1.f3.length d4] 39 (0, 0)) := by
    have h := blk_new (W.alloc (.cells #[.slice A0 x.f0.length c0, .int .i64 x.f1.f0, .slice A2 x.f1.f1.length c2, .slice A3 x.f1.f2.length c3, .slice A4 x.f1.f3.length c4] 39)) (.cells #[.slice B0 y.f0.length d0, .int .i64 y.f1.f0, .slice B2 y.f1.f1.length d2, .slice B3 y.f1.f2.length d3, .slice B4 y.f1.f3.length d4] 39)
    rw [hw1] at h
    simpa using h
  have HN1 := Aside0.mk hn1
  have HN2 := Aside0.mk hn2
  have y0 : w1.cell? ⟨W.heap.size, 0, none⟩ = some (.slice A0 x.f0.length c0) := (blk_cell hn1 0).trans rfl
  have z0 : w1.cell? ⟨W.heap.size + 1, 0, none⟩ = some (.slice B0 y.f0.length d0) := (blk_cell hn2 0).trans rfl
  have y1 : w1.cell? ⟨W.heap.size, 1, none⟩ = some (.int .i64 x.f1.f0) := (blk_cell hn1 1).trans rfl
  have z1 : w1.cell? ⟨W.heap.size + 1, 1, none⟩ = some (.int .i64 y.f1.f0) := (blk_cell hn2 1).trans rfl
  have y2 : w1.cell? ⟨W.heap.size, 2, none⟩ = some (.slice A2 x.f1.f1.length c2) := (blk_cell hn1 2).trans rfl
  have z2 : w1.cell? ⟨W.heap.size + 1, 2, none⟩ = some (.slice B2 y.f1.f1.length d2) := (blk_cell hn2 2).trans rfl
  have y3 : w1.cell? ⟨W.heap.size, 3, none⟩ = some (.slice A3 x.f1.f2.length c3) := (blk_cell hn1 3).trans rfl
  have z3 : w1.cell? ⟨W.heap.size + 1, 3, none⟩ = some (.slice B3 y.f1.f2.length d3) := (blk_cell hn2 3).trans rfl
  have y4 : w1.cell? ⟨W.heap.size, 4, none⟩ = some (.slice A4 x.f1.f3.length c4) := (blk_cell hn1 4).trans rfl
  have z4 : w1.cell? ⟨W.heap.size + 1, 4, none⟩ = some (.slice B4 y.f1.f3.length d4) := (blk_cell hn2 4).trans rfl
  clear hn1 hn2
  go_enter Tryd.func51, Tryd.ntmps51
  go_wp2_with fail
  clear hw1
  have qb := join_below HB.out HB1.out
  refine (eqtx_any x.f0 y.f0 A0 B0 c0 d0 _ (Kd.C_below G0.out qb) (Kd.C_below H0.out qb) L0.out M0.out).mono ?_
  rintro e w2 ⟨rfl, hb⟩
  have HB2 := Aside0.mk (join_below HB1.out hb)
  have hr := HR2.out
  have HN1 := Aside0.mk (blk_below HN1.out hb)
  have HN2 := Aside0.mk (blk_below HN2.out hb)
  have y1 : w2.cell? ⟨W.heap.size, 1, none⟩ = some (.int .i64 x.f1.f0) := (blk_cell HN1.out 1).trans rfl
  have z1 : w2.cell? ⟨W.heap.size + 1, 1, none⟩ = some (.int .i64 y.f1.f0) := (blk_cell HN2.out 1).trans rfl
  have y2 : w2.cell? ⟨W.heap.size, 2, none⟩ = some (.slice A2 x.f1.f1.length c2) := (blk_cell HN1.out 2).trans rfl
  have z2 : w2.cell? ⟨W.heap.size + 1, 2, none⟩ = some (.slice B2 y.f1.f1.length d2) := (blk_cell HN2.out 2).trans rfl
  have y3 : w2.cell? ⟨W.heap.size, 3, none⟩ = some (.slice A3 x.f1.f2.length c3) := (blk_cell HN1.out 3).trans rfl
  have z3 : w2.cell? ⟨W.heap.size + 1, 3, none⟩ = some (.slice B3 y.f1.f2.length d3) := (blk_cell HN2.out 3).trans rfl
  have y4 : w2.cell? ⟨W.heap.size, 4, none⟩ = some (.slice A4 x.f1.f3.length c4) := (blk_cell HN1.out 4).trans rfl
  have z4 : w2.cell? ⟨W.heap.size + 1, 4, none⟩ = some (.slice B4 y.f1.f3.length d4) := (blk_cell HN2.out 4).trans rfl
  clear hb qb
  cases hq : eqL txQ x.f0 y.f0
  · rw [hq, Bool.false_and] at hr
    have HF := Aside0.mk hr
    clear hr hq
    go_wp2
    go_ret
    exact ⟨by rw [← HF.out]; rfl, HB2.out⟩
  · rw [hq, Bool.true_and] at hr
    have HR2 := Aside0.mk hr
    clear hr hq
    go_wp2_with fail
    have qb := join_below HB.out HB2.out
    refine (same_pt x.f1 y.f1 w0 _ _ _ qb (k37_mk w0 x.f1 L2.out G2.out L3.out G3.out L4.out G4.out) (k37_mk w0 y.f1 M2.out H2.out M3.out H3.out M4.out H4.out)).mono ?_
    rintro e w3 ⟨rfl, hb⟩
    have HB3 := Aside0.mk (join_below HB2.out hb)
    have hr := HR2.out
    have HF := Aside0.mk hr
    clear hr hb qb
    go_wp2
    go_ret
    exact ⟨by rw [← HF.out]; rfl, HB3.out⟩
set_option maxHeartbeats 2000000 in
set_option maxRecDepth 100000 in
theorem same_rul (x y : Rul) (w0 W : World) (cs ds : List Value) (hB : Below w0.heap.size w0 W) (hK : k32.K w0 x cs) (hK2 : k32.K w0 y ds) :
    Calls Tryd.prog 39 #[.agg cs.toArray, .agg ds.toArray] W fun e W' => e = .returned (.bool (sameRul x y)) ∧ Below W.heap.size W W' := by
  obtain ⟨A2, c2, rfl, l2, g2⟩ := k32_open hK
  obtain ⟨B2, d2, rfl, m2, h2⟩ := k32_open hK2
  obtain ⟨res, hres⟩ : ∃ r, sameRul x y = r := ⟨_, rfl⟩
  have hv : sameRul x y = ((x.f0 == y.f0) && ((x.f1 == y.f1) && (eqL sameStp x.f2 y.f2))) := rfl
  rw [hres]
  have HR : Aside0 (((x.f0 == y.f0) && ((x.f1 == y.f1) && (eqL sameStp x.f2 y.f2))) = res) := ⟨hv.symm.trans hres⟩
  have L2 := Aside0.mk l2
  have G2 := Aside0.mk g2
  have M2 := Aside0.mk m2
  have H2 := Aside0.mk h2
  have HB := Aside0.mk hB
  clear hB hK hK2 hres hv l2 g2 m2 h2
  by_cases q0 : (x.f0 == y.f0) = true
  rotate_left
  · have hr := HR.out
    rw [Bool.not_eq_true] at q0
    rw [q0, Bool.false_and] at hr
    have HF := Aside0.mk hr
    clear hr HR
    go_enter Tryd.func39, Tryd.ntmps39
    go_wp2
    go_ret
    exact ⟨by rw [← HF.out]; rfl, below_alloc (below1 _ _) _⟩
  by_cases q1 : (x.f1 == y.f1) = true
  rotate_left
  · have hr := HR.out
    rw [Bool.not_eq_true] at q1
    rw [q0, Bool.true_and, q1, Bool.false_and] at hr
    have HF := Aside0.mk hr
    clear hr HR
    go_enter Tryd.func39, Tryd.ntmps39
    go_wp2
    go_ret
    exact ⟨by rw [← HF.out]; rfl, below_alloc (below1 _ _) _⟩
  have hr := HR.out
  rw [q0, Bool.true_and, q1, Bool.true_and] at hr
  have HR2 := Aside0.mk hr
  clear hr HR
  obtain ⟨w1, hw1⟩ : ∃ w1, (W.alloc (.cells #[.int .i64 x.f0, .bool x.f1, .slice A2 x.f2.length c2] 32)).alloc (.cells #[.int .i64 y.f0, .bool y.f1, .slice B2 y.f2.length d2] 32) = w1 := ⟨_, rfl⟩
  have HB1 : Aside0 (Below W.heap.size W w1) := ⟨hw1 ▸ below_alloc (below1 W _) _⟩
  have hn1 : w1.heap[W.heap.size]? = some (.cells #[.int .i64 x.f0, .bool x.f1, .slice A2 x.f2.length c2] 32 (0, 0)) := by rw [← hw1]; exact blk_alloc (blk_new _ _) _
  have hn2 : w1.heap[W.heap.size + 1]? = some (.cells #[.int .i64 y.f0, .bool y.f1, .slice B2 y.f2.length d2] 32 (0, 0)) := by
    have h := blk_new (W.alloc (.cells #[.int .i64 x.f0, .bool x.f1, .slice A2 x.f2.length c2] 32)) (.cells #[.int .i64 y.f0, .bool y.f1, .slice B2 y.f2.length d2] 32)
    rw [hw1] at h
    simpa using h
  have HN1 := Aside0.mk hn1
  have HN2 := Aside0.mk hn2
  have y0 : w1.cell? ⟨W.heap.size, 0, none⟩ = some (.int .i64 x.f0) := (blk_cell hn1 0).trans rfl
  have z0 : w1.cell? ⟨W.heap.size + 1, 0, none⟩ = some (.int .i64 y.f0) := (blk_cell hn2 0).trans rfl
  have y1 : w1.cell? ⟨W.heap.size, 1, none⟩ = some (.bool x.f1) := (blk_cell hn1 1).trans rfl
  have z1 : w1.cell? ⟨W.heap.size + 1, 1, none⟩ = some (.bool y.f1) := (blk_cell hn2 1).trans rfl
  have y2 : w1.cell? ⟨W.heap.size, 2, none⟩ = some (.slice A2 x.f2.length c2) := (blk_cell hn1 2).trans rfl
  have z2 : w1.cell? ⟨W.heap.size + 1, 2, none⟩ = some (.slice B2 y.f2.length d2) := (blk_cell hn2 2).trans rfl
  clear hn1 hn2
  go_enter Tryd.func39, Tryd.ntmps39
  go_wp2_with fail
  clear hw1
  have qb := join_below HB.out HB1.out
  refine (stps_equal sameStp x.f2 y.f2 A2 B2 c2 d2 w0 _ G2.out H2.out qb (fun a b cs ds W' _ _ hB' hK hK2 => same_stp a b w0 W' cs ds hB' hK hK2)).mono ?_
  rintro e w2 ⟨rfl, hb⟩
  have HB2 := Aside0.mk (join_below HB1.out hb)
  have hr := HR2.out
  have HF := Aside0.mk hr
  clear hr hb qb
  go_wp2
  go_ret
  exact ⟨by rw [← HF.out]; rfl, HB2.out⟩
set_option maxHeartbeats 2000000 in
set_option maxRecDepth 100000 in
theorem same_tok (x y : Tok) (w0 W : World) (cs ds : List Value) (hB : Below w0.heap.size w0 W) (hK : k50.K w0 x cs) (hK2 : k50.K w0 y ds) :
    Calls Tryd.prog 36 #[.agg cs.toArray, .agg ds.toArray] W fun e W' => e = .returned (.bool (sameTok x y)) ∧ Below W.heap.size W W' := by
  obtain ⟨A4, c4, A5, c5, rfl, l4, g4, l5, g5⟩ := k50_open hK
  obtain ⟨B4, d4, B5, d5, rfl, m4, h4, m5, h5⟩ := k50_open hK2
  obtain ⟨res, hres⟩ : ∃ r, sameTok x y = r := ⟨_, rfl⟩
  have hv : sameTok x y = ((x.f0.toList == y.f0.toList) && ((x.f1 == y.f1) && ((x.f2 == y.f2) && (sameRe x.f3 y.f3)))) := rfl
  rw [hres]
  have HR : Aside0 (((x.f0.toList == y.f0.toList) && ((x.f1 == y.f1) && ((x.f2 == y.f2) && (sameRe x.f3 y.f3)))) = res) := ⟨hv.symm.trans hres⟩
  have L4 := Aside0.mk l4
  have G4 := Aside0.mk g4
  have L5 := Aside0.mk l5
  have G5 := Aside0.mk g5
  have M4 := Aside0.mk m4
  have H4 := Aside0.mk h4
  have M5 := Aside0.mk m5
  have H5 := Aside0.mk h5
  have HB := Aside0.mk hB
  clear hB hK hK2 hres hv l4 g4 l5 g5 m4 h4 m5 h5
  by_cases q0 : (x.f0.toList == y.f0.toList) = true
  rotate_left
  · have hr := HR.out
    rw [Bool.not_eq_true] at q0
    rw [q0, Bool.false_and] at hr
    have HF := Aside0.mk hr
    clear hr HR
    go_enter Tryd.func36, Tryd.ntmps36
    go_wp2
    go_ret
    exact ⟨by rw [← HF.out]; rfl, below_alloc (below1 _ _) _⟩
  by_cases q1 : (x.f1 == y.f1) = true
  rotate_left
  · have hr := HR.out
    rw [Bool.not_eq_true] at q1
    rw [q0, Bool.true_and, q1, Bool.false_and] at hr
    have HF := Aside0.mk hr
    clear hr HR
    go_enter Tryd.func36, Tryd.ntmps36
    go_wp2
    go_ret
    exact ⟨by rw [← HF.out]; rfl, below_alloc (below1 _ _) _⟩
  by_cases q2 : (x.f2 == y.f2) = true
  rotate_left
  · have hr := HR.out
    rw [Bool.not_eq_true] at q2
    rw [q0, Bool.true_and, q1, Bool.true_and, q2, Bool.false_and] at hr
    have HF := Aside0.mk hr
    clear hr HR
    go_enter Tryd.func36, Tryd.ntmps36
    go_wp2
    go_ret
    exact ⟨by rw [← HF.out]; rfl, below_alloc (below1 _ _) _⟩
  have hr := HR.out
  rw [q0, Bool.true_and, q1, Bool.true_and, q2, Bool.true_and] at hr
  have HR2 := Aside0.mk hr
  clear hr HR
  obtain ⟨w1, hw1⟩ : ∃ w1, (W.alloc (.cells #[.string x.f0, .int .i64 x.f1, .int .i64 x.f2, .int .i64 x.f3.f0, .slice A4 x.f3.f1.length c4, .slice A5 x.f3.f2.length c5] 50)).alloc (.cells #[.string y.f0, .int .i64 y.f1, .int .i64 y.f2, .int .i64 y.f3.f0, .slice B4 y.f3.f1.length d4, .slice B5 y.f3.f2.length d5] 50) = w1 := ⟨_, rfl⟩
  have HB1 : Aside0 (Below W.heap.size W w1) := ⟨hw1 ▸ below_alloc (below1 W _) _⟩
  have hn1 : w1.heap[W.heap.size]? = some (.cells #[.string x.f0, .int .i64 x.f1, .int .i64 x.f2, .int .i64 x.f3.f0, .slice A4 x.f3.f1.length c4, .slice A5 x.f3.f2.length c5] 50 (0, 0)) := by rw [← hw1]; exact blk_alloc (blk_new _ _) _
  have hn2 : w1.heap[W.heap.size + 1]? = some (.cells #[.string y.f0, .int .i64 y.f1, .int .i64 y.f2, .int .i64 y.f3.f0, .slice B4 y.f3.f1.length d4, .slice B5 y.f3.f2.length d5] 50 (0, 0)) := by
    have h := blk_new (W.alloc (.cells #[.string x.f0, .int .i64 x.f1, .int .i64 x.f2, .int .i64 x.f3.f0, .slice A4 x.f3.f1.length c4, .slice A5 x.f3.f2.length c5] 50)) (.cells #[.string y.f0, .int .i64 y.f1, .int .i64 y.f2, .int .i64 y.f3.f0, .slice B4 y.f3.f1.length d4, .slice B5 y.f3.f2.length d5] 50)
    rw [hw1] at h
    simpa using h
  have HN1 := Aside0.mk hn1
  have HN2 := Aside0.mk hn2
  have y0 : w1.cell? ⟨W.heap.size, 0, none⟩ = some (.string x.f0) := (blk_cell hn1 0).trans rfl
  have z0 : w1.cell? ⟨W.heap.size + 1, 0, none⟩ = some (.string y.f0) := (blk_cell hn2 0).trans rfl
  have y1 : w1.cell? ⟨W.heap.size, 1, none⟩ = some (.int .i64 x.f1) := (blk_cell hn1 1).trans rfl
  have z1 : w1.cell? ⟨W.heap.size + 1, 1, none⟩ = some (.int .i64 y.f1) := (blk_cell hn2 1).trans rfl
  have y2 : w1.cell? ⟨W.heap.size, 2, none⟩ = some (.int .i64 x.f2) := (blk_cell hn1 2).trans rfl
  have z2 : w1.cell? ⟨W.heap.size + 1, 2, none⟩ = some (.int .i64 y.f2) := (blk_cell hn2 2).trans rfl
  have y3 : w1.cell? ⟨W.heap.size, 3, none⟩ = some (.int .i64 x.f3.f0) := (blk_cell hn1 3).trans rfl
  have z3 : w1.cell? ⟨W.heap.size + 1, 3, none⟩ = some (.int .i64 y.f3.f0) := (blk_cell hn2 3).trans rfl
  have y4 : w1.cell? ⟨W.heap.size, 4, none⟩ = some (.slice A4 x.f3.f1.length c4) := (blk_cell hn1 4).trans rfl
  have z4 : w1.cell? ⟨W.heap.size + 1, 4, none⟩ = some (.slice B4 y.f3.f1.length d4) := (blk_cell hn2 4).trans rfl
  have y5 : w1.cell? ⟨W.heap.size, 5, none⟩ = some (.slice A5 x.f3.f2.length c5) := (blk_cell hn1 5).trans rfl
  have z5 : w1.cell? ⟨W.heap.size + 1, 5, none⟩ = some (.slice B5 y.f3.f2.length d5) := (blk_cell hn2 5).trans rfl
  clear hn1 hn2
  go_enter Tryd.func36, Tryd.ntmps36
  go_wp2_with fail
  clear hw1
  have qb := join_below HB.out HB1.out
  refine (same_re x.f3 y.f3 w0 _ _ _ qb (k48_mk w0 x.f3 L4.out G4.out L5.out G5.out) (k48_mk w0 y.f3 M4.out H4.out M5.out H5.out)).mono ?_
  rintro e w2 ⟨rfl, hb⟩
  have HB2 := Aside0.mk (join_below HB1.out hb)
  have hr := HR2.out
  have HF := Aside0.mk hr
  clear hr hb qb
  go_wp2
  go_ret
  exact ⟨by rw [← HF.out]; rfl, HB2.out⟩
def sameS (T : List Tok) (R : List Rul) (T' : List Tok) (R' : List Rul) : Bool := eqL sameTok T T' && eqL sameRul R R'
set_option maxHeartbeats 2000000 in
set_option maxRecDepth 100000 in
theorem same_any (T T' : List Tok) (R R' : List Rul) (A0 A1 B0 B1 : Option Addr) (c0 c1 d0 d1 : Nat) (W : World) (hA0 : kTok.C W A0 T.length T) (hA1 : kRul.C W A1 R.length R) (hB0 : kTok.C W B0 T'.length T') (hB1 : kRul.C W B1 R'.length R') :
    Calls Tryd.prog 21 #[.agg #[.slice A0 T.length c0, .slice A1 R.length c1], .agg #[.slice B0 T'.length d0, .slice B1 R'.length d1]] W fun e W' => e = .returned (.bool (sameS T R T' R')) ∧ Below W.heap.size W W' := by
  have HG := Aside0.mk (And.intro (And.intro hA0 hA1) (And.intro hB0 hB1))
  obtain ⟨res, hres⟩ : ∃ r, sameS T R T' R' = r := ⟨_, rfl⟩
  rw [hres]
  have HR : Aside0 ((eqL sameTok T T' && eqL sameRul R R') = res) := ⟨hres⟩
  clear hA0 hA1 hB0 hB1 hres
  obtain ⟨w1, hw1⟩ : ∃ w1, (W.alloc (.cells #[.slice A0 T.length c0, .slice A1 R.length c1] 26)).alloc (.cells #[.slice B0 T'.length d0, .slice B1 R'.length d1] 26) = w1 := ⟨_, rfl⟩
  have HB1 : Aside0 (Below W.heap.size W w1) := ⟨hw1 ▸ below_alloc (below1 W _) _⟩
  have hn1 : w1.heap[W.heap.size]? = some (.cells #[.slice A0 T.length c0, .slice A1 R.length c1] 26 (0, 0)) := by rw [← hw1]; exact blk_alloc (blk_new _ _) _
  have hn2 : w1.heap[W.heap.size + 1]? = some (.cells #[.slice B0 T'.length d0, .slice B1 R'.length d1] 26 (0, 0)) := by
    have h := blk_new (W.alloc (.cells #[.slice A0 T.length c0, .slice A1 R.length c1] 26)) (.cells #[.slice B0 T'.length d0, .slice B1 R'.length d1] 26)
    rw [hw1] at h
    simpa using h
  have HN1 := Aside0.mk hn1
  have HN2 := Aside0.mk hn2
  have y0 : w1.cell? ⟨W.heap.size, 0, none⟩ = some (.slice A0 T.length c0) := (blk_cell hn1 0).trans rfl
  have z0 : w1.cell? ⟨W.heap.size + 1, 0, none⟩ = some (.slice B0 T'.length d0) := (blk_cell hn2 0).trans rfl
  clear hn1 hn2
  go_enter Tryd.func21, Tryd.ntmps21
  go_wp2_with fail
  clear hw1
  have qb := HB1.out
  refine (toks_equal sameTok T T' A0 B0 c0 d0 W _ HG.out.1.1 HG.out.2.1 qb (fun a b cs ds W' _ _ hB' hK hK2 => same_tok a b W W' cs ds hB' hK hK2)).mono ?_
  rintro e w2 ⟨rfl, hb⟩
  have HB2 := Aside0.mk (join_below HB1.out hb)
  have hn1 := blk_below HN1.out hb
  have hn2 := blk_below HN2.out hb
  have y1 : w2.cell? ⟨W.heap.size, 1, none⟩ = some (.slice A1 R.length c1) := (blk_cell hn1 1).trans rfl
  have z1 : w2.cell? ⟨W.heap.size + 1, 1, none⟩ = some (.slice B1 R'.length d1) := (blk_cell hn2 1).trans rfl
  clear hn1 hn2 hb qb y0 z0
  have hr := HR.out
  cases hq : eqL sameTok T T'
  · rw [hq, Bool.false_and] at hr
    have HF := Aside0.mk hr
    clear hr hq
    go_wp2
    go_ret
    exact ⟨by rw [← HF.out]; rfl, HB2.out⟩
  · rw [hq, Bool.true_and] at hr
    have HF := Aside0.mk hr
    clear hr hq
    go_wp2_with fail
    refine (ruls_equal sameRul R R' A1 B1 c1 d1 W _ HG.out.1.2 HG.out.2.2 HB2.out (fun a b cs ds W' _ _ hB' hK hK2 => same_rul a b W W' cs ds hB' hK hK2)).mono ?_
    rintro e w3 ⟨rfl, hb⟩
    have HB3 := Aside0.mk (join_below HB2.out hb)
    clear hb
    go_wp2
    go_ret
    exact ⟨by rw [← HF.out]; rfl, HB3.out⟩
end Go.Proofs.YthdfmbmbjpmlaaaDoor.Rn
/- gram.Empty. -/
set_option linter.unusedVariables false
set_option linter.unusedSimpArgs false
namespace Go.Proofs.YthdfmbmbjpmlaaaDoor.Rn
open Go Go.RowKit Go.Proofs.YthdfmbmbjpmlaaaDoorW.PrintWords Go.Proofs.YthdfmbmbjpmlaaaDoorW.PrintLast Go.Proofs.YthdfmbmbjpmlaaaDoorW.PrintMore
set_option maxHeartbeats 1000000 in
set_option maxRecDepth 100000 in
theorem empn_index (xs : List S37) (A : Option Addr) (c : Nat)  (I J : Nat → World → Prop) (w0 w : World) (hC : k37.C w0 A xs.length xs) (hB : ∀ i W, I i W → Below w0.heap.size w0 W)
    (hstep : ∀ i x cs W, xs[i]? = some x → I i W → k37.K w0 x cs → Calls Tryd.prog 23 #[.agg cs.toArray] W (CbPost (J i) (I (i + 1)))) (h0 : I 0 w) :
    Calls Tryd.prog 40 #[.slice A xs.length c, .func (.func 23) #[] #[]] w (IdxPost xs.length I J) := by
  have hl : xs.length ≤ 9223372036854775807 := hC.2.1
  have HC := Aside0.mk hC
  have HB := Aside0.mk hB
  have HS := Aside0.mk hstep
  have H0 := Aside0.mk h0
  clear hC hB hstep h0
  go_enter Tryd.func40, Tryd.ntmps40
  go_wp2
  go_loopw [8] (fun i W => ∃ k : Nat, i = .int .i64 k ∧ k ≤ xs.length ∧ Aside0 (I k W)) (fun i _ => xs.length - (intOf i).toNat)
  case atStart => exact ⟨0, rfl, Nat.zero_le _, H0⟩
  case round =>
    obtain ⟨k, rfl, hkl, HI⟩ := hrel
    by_cases hlt : k < xs.length
    · obtain ⟨g, o, rfl, _, hcell⟩ := row_cells HC.out (by omega) (by decide)
      obtain ⟨x, hx⟩ : ∃ x, xs[k]? = some x := ⟨_, List.getElem?_eq_getElem hlt⟩
      obtain ⟨cs, hcl, hK, hcc⟩ := hcell k x hx
      have HK := Aside0.mk hK
      obtain ⟨A1, c1, A2, c2, A3, c3, rfl, l1, g1, l2, g2, l3, g3⟩ := k37_open hK
      have y0 := cell_after (HB.out k _ HI.out) (hcc 0 (.int .i64 x.f0) rfl)
      rw [Nat.add_zero] at y0
      have y1 := cell_after (HB.out k _ HI.out) (hcc 1 (.slice A1 x.f1.length c1) rfl)
      have y2 := cell_after (HB.out k _ HI.out) (hcc 2 (.slice A2 x.f2.length c2) rfl)
      have y3 := cell_after (HB.out k _ HI.out) (hcc 3 (.slice A3 x.f3.length c3) rfl)
      simp only [show k37.sz = 4 from rfl] at y0 y1 y2 y3
      have HX := Aside0.mk hx
      clear hcell hcc hx hK hcl
      go_wp2_with fail
      refine (HS.out k x _ _ HX.out HI.out HK.out).mono ?_
      rintro e w2 hp
      rcases hp with ⟨rfl, hj⟩ | ⟨rfl, hi⟩
      · have HJ := Aside0.mk hj
        clear hj
        go_wp2
        go_ret
        exact Or.inl ⟨k, hlt, rfl, HJ.out⟩
      · have HI2 := Aside0.mk hi
        clear hi
        go_wp2
        go_roundw
        case rel => exact ⟨k + 1, by go_num, by omega, HI2⟩
        case measure => simp [intOf]; omega
    · obtain ⟨n, hn⟩ : ∃ n, xs.length = n := ⟨_, rfl⟩
      have e : k = xs.length := by omega
      have HI2 : Aside0 (I xs.length _) := ⟨e ▸ HI.out⟩
      clear e hn n
      go_wp2
      go_ret
      exact Or.inr ⟨rfl, HI2.out⟩
set_option maxHeartbeats 1000000 in
theorem empn_contains (xs : List S37) (A : Option Addr) (c : Nat)  (I J : Nat → World → Prop) (w0 w : World) (hC : k37.C w0 A xs.length xs) (hB : ∀ i W, I i W → Below w0.heap.size w0 W)
    (hstep : ∀ i x cs W, xs[i]? = some x → I i W → k37.K w0 x cs → Calls Tryd.prog 23 #[.agg cs.toArray] W (CbPost (J i) (I (i + 1)))) (h0 : I 0 w) :
    Calls Tryd.prog 22 #[.slice A xs.length c, .func (.func 23) #[] #[]] w (ConPost xs.length I J) := by
  have hl : xs.length ≤ 9223372036854775807 := hC.2.1
  have HC := Aside0.mk hC
  have HB := Aside0.mk hB
  have HS := Aside0.mk hstep
  have H0 := Aside0.mk h0
  clear hC hB hstep h0
  go_enter Tryd.func22, Tryd.ntmps22
  go_wp2_with fail
  refine (empn_index xs A c  I J w0 _ HC.out HB.out HS.out H0.out).mono ?_
  rintro e w2 hp
  rcases hp with ⟨i, hi, rfl, hj⟩ | ⟨rfl, hi⟩
  · have HJ := Aside0.mk hj
    have h0 : (0 : Int) ≤ (i : Int) := by omega
    clear hj
    go_wp2
    go_ret
    exact Or.inl ⟨rfl, i, hi, HJ.out⟩
  · have HI := Aside0.mk hi
    clear hi
    go_wp2
    go_ret
    exact Or.inr ⟨rfl, HI.out⟩
theorem empn_any (q : S37 → Bool) (xs : List S37) (A : Option Addr) (c : Nat)  (w0 w : World) (hC : k37.C w0 A xs.length xs) (hw : Below w0.heap.size w0 w)
    (hq : ∀ x cs W, x ∈ xs → Below w.heap.size w W → k37.K w0 x cs → Calls Tryd.prog 23 #[.agg cs.toArray] W fun e W' => e = .returned (.bool (q x)) ∧ Below W.heap.size W W') :
    Calls Tryd.prog 22 #[.slice A xs.length c, .func (.func 23) #[] #[]] w fun e W' => e = .returned (.bool (xs.any q)) ∧ Below w.heap.size w W' := by
  refine (empn_contains xs A c  (fun i W => Below w.heap.size w W ∧ (xs.take i).any q = false) (fun _ W => Below w.heap.size w W ∧ xs.any q = true) w0 w hC (fun i W h => join_below hw h.1) (fun i y cs W hy hI hK => ?_) ⟨Below.refl _ _, rfl⟩).mono ?_
  · refine (hq y cs W (List.mem_of_getElem? hy) hI.1 hK).mono ?_
    rintro e W2 ⟨rfl, hb2⟩
    have hb3 := join_below hI.1 hb2
    cases hb : q y
    · exact Or.inr ⟨rfl, hb3, by rw [List.take_add_one, hy, List.any_append, hI.2]; simp [hb]⟩
    · exact Or.inl ⟨rfl, hb3, List.any_eq_true.2 ⟨y, List.mem_of_getElem? hy, hb⟩⟩
  · rintro e W2 hp
    rcases hp with ⟨rfl, _, _, hb, hm⟩ | ⟨rfl, hb, hm⟩
    · exact ⟨by rw [hm], hb⟩
    · rw [List.take_length] at hm
      exact ⟨by rw [hm], hb⟩
set_option maxHeartbeats 1000000 in
set_option maxRecDepth 100000 in
theorem empy_index (xs : List S37) (A : Option Addr) (c : Nat)  (I J : Nat → World → Prop) (w0 w : World) (hC : k37.C w0 A xs.length xs) (hB : ∀ i W, I i W → Below w0.heap.size w0 W)
    (hstep : ∀ i x cs W, xs[i]? = some x → I i W → k37.K w0 x cs → Calls Tryd.prog 11 #[.agg cs.toArray] W (CbPost (J i) (I (i + 1)))) (h0 : I 0 w) :
    Calls Tryd.prog 40 #[.slice A xs.length c, .func (.func 11) #[] #[]] w (IdxPost xs.length I J) := by
  have hl : xs.length ≤ 9223372036854775807 := hC.2.1
  have HC := Aside0.mk hC
  have HB := Aside0.mk hB
  have HS := Aside0.mk hstep
  have H0 := Aside0.mk h0
  clear hC hB hstep h0
  go_enter Tryd.func40, Tryd.ntmps40
  go_wp2
  go_loopw [8] (fun i W => ∃ k : Nat, i = .int .i64 k ∧ k ≤ xs.length ∧ Aside0 (I k W)) (fun i _ => xs.length - (intOf i).toNat)
  case atStart => exact ⟨0, rfl, Nat.zero_le _, H0⟩
  case round =>
    obtain ⟨k, rfl, hkl, HI⟩ := hrel
    by_cases hlt : k < xs.length
    · obtain ⟨g, o, rfl, _, hcell⟩ := row_cells HC.out (by omega) (by decide)
      obtain ⟨x, hx⟩ : ∃ x, xs[k]? = some x := ⟨_, List.getElem?_eq_getElem hlt⟩
      obtain ⟨cs, hcl, hK, hcc⟩ := hcell k x hx
      have HK := Aside0.mk hK
      obtain ⟨A1, c1, A2, c2, A3, c3, rfl, l1, g1, l2, g2, l3, g3⟩ := k37_open hK
      have y0 := cell_after (HB.out k _ HI.out) (hcc 0 (.int .i64 x.f0) rfl)
      rw [Nat.add_zero] at y0
      have y1 := cell_after (HB.out k _ HI.out) (hcc 1 (.slice A1 x.f1.length c1) rfl)
      have y2 := cell_after (HB.out k _ HI.out) (hcc 2 (.slice A2 x.f2.length c2) rfl)
      have y3 := cell_after (HB.out k _ HI.out) (hcc 3 (.slice A3 x.f3.length c3) rfl)
      simp only [show k37.sz = 4 from rfl] at y0 y1 y2 y3
      have HX := Aside0.mk hx
      clear hcell hcc hx hK hcl
      go_wp2_with fail
      refine (HS.out k x _ _ HX.out HI.out HK.out).mono ?_
      rintro e w2 hp
      rcases hp with ⟨rfl, hj⟩ | ⟨rfl, hi⟩
      · have HJ := Aside0.mk hj
        clear hj
        go_wp2
        go_ret
        exact Or.inl ⟨k, hlt, rfl, HJ.out⟩
      · have HI2 := Aside0.mk hi
        clear hi
        go_wp2
        go_roundw
        case rel => exact ⟨k + 1, by go_num, by omega, HI2⟩
        case measure => simp [intOf]; omega
    · obtain ⟨n, hn⟩ : ∃ n, xs.length = n := ⟨_, rfl⟩
      have e : k = xs.length := by omega
      have HI2 : Aside0 (I xs.length _) := ⟨e ▸ HI.out⟩
      clear e hn n
      go_wp2
      go_ret
      exact Or.inr ⟨rfl, HI2.out⟩
set_option maxHeartbeats 1000000 in
theorem empy_contains (xs : List S37) (A : Option Addr) (c : Nat)  (I J : Nat → World → Prop) (w0 w : World) (hC : k37.C w0 A xs.length xs) (hB : ∀ i W, I i W → Below w0.heap.size w0 W)
    (hstep : ∀ i x cs W, xs[i]? = some x → I i W → k37.K w0 x cs → Calls Tryd.prog 11 #[.agg cs.toArray] W (CbPost (J i) (I (i + 1)))) (h0 : I 0 w) :
    Calls Tryd.prog 22 #[.slice A xs.length c, .func (.func 11) #[] #[]] w (ConPost xs.length I J) := by
  have hl : xs.length ≤ 9223372036854775807 := hC.2.1
  have HC := Aside0.mk hC
  have HB := Aside0.mk hB
  have HS := Aside0.mk hstep
  have H0 := Aside0.mk h0
  clear hC hB hstep h0
  go_enter Tryd.func22, Tryd.ntmps22
  go_wp2_with fail
  refine (empy_index xs A c  I J w0 _ HC.out HB.out HS.out H0.out).mono ?_
  rintro e w2 hp
  rcases hp with ⟨i, hi, rfl, hj⟩ | ⟨rfl, hi⟩
  · have HJ := Aside0.mk hj
    have h0 : (0 : Int) ≤ (i : Int) := by omega
    clear hj
    go_wp2
    go_ret
    exact Or.inl ⟨rfl, i, hi, HJ.out⟩
  · have HI := Aside0.mk hi
    clear hi
    go_wp2
    go_ret
    exact Or.inr ⟨rfl, HI.out⟩
theorem empy_any (q : S37 → Bool) (xs : List S37) (A : Option Addr) (c : Nat)  (w0 w : World) (hC : k37.C w0 A xs.length xs) (hw : Below w0.heap.size w0 w)
    (hq : ∀ x cs W, x ∈ xs → Below w.heap.size w W → k37.K w0 x cs → Calls Tryd.prog 11 #[.agg cs.toArray] W fun e W' => e = .returned (.bool (q x)) ∧ Below W.heap.size W W') :
    Calls Tryd.prog 22 #[.slice A xs.length c, .func (.func 11) #[] #[]] w fun e W' => e = .returned (.bool (xs.any q)) ∧ Below w.heap.size w W' := by
  refine (empy_contains xs A c  (fun i W => Below w.heap.size w W ∧ (xs.take i).any q = false) (fun _ W => Below w.heap.size w W ∧ xs.any q = true) w0 w hC (fun i W h => join_below hw h.1) (fun i y cs W hy hI hK => ?_) ⟨Below.refl _ _, rfl⟩).mono ?_
  · refine (hq y cs W (List.mem_of_getElem? hy) hI.1 hK).mono ?_
    rintro e W2 ⟨rfl, hb2⟩
    have hb3 := join_below hI.1 hb2
    cases hb : q y
    · exact Or.inr ⟨rfl, hb3, by rw [List.take_add_one, hy, List.any_append, hI.2]; simp [hb]⟩
    · exact Or.inl ⟨rfl, hb3, List.any_eq_true.2 ⟨y, List.mem_of_getElem? hy, hb⟩⟩
  · rintro e W2 hp
    rcases hp with ⟨rfl, _, _, hb, hm⟩ | ⟨rfl, hb, hm⟩
    · exact ⟨by rw [hm], hb⟩
    · rw [List.take_length] at hm
      exact ⟨by rw [hm], hb⟩
mutual
/-- may a pattern be of nothing -/
def empP : Pt → Bool
  | ⟨a, _, _, l⟩ => if a = 1 ∨ a = 4 ∨ a = 7 then true else if a = 5 then !empN l else if a = 6 then empY l else false
def empN : List Pt → Bool
  | [] => false
  | x :: l => !empP x || empN l
def empY : List Pt → Bool
  | [] => false
  | x :: l => empP x || empY l
end
theorem empN_eq : ∀ l : List Pt, empN l = l.any (fun x => !empP x)
  | [] => by simp only [empN, List.any_nil]
  | x :: l => by
    simp only [empN, List.any_cons]
    rw [empN_eq l]
theorem empY_eq : ∀ l : List Pt, empY l = l.any empP
  | [] => by simp only [empY, List.any_nil]
  | x :: l => by
    simp only [empY, List.any_cons]
    rw [empY_eq l]
def EmpC (x : Pt) : Prop := ∀ (w0 W : World) (cs : List Value), Below w0.heap.size w0 W → kPt.K w0 x cs → Calls Tryd.prog 11 #[.agg cs.toArray] W fun e W' => e = .returned (.bool (empP x)) ∧ Below W.heap.size W W'
set_option maxHeartbeats 1000000 in
theorem emp_part {x : Pt} (hx : EmpC x) (w0 W : World) (cs : List Value) (hB : Below w0.heap.size w0 W) (hK : kPt.K w0 x cs) :
    Calls Tryd.prog 23 #[.agg cs.toArray] W fun e W' => e = .returned (.bool (!empP x)) ∧ Below W.heap.size W W' := by
  have HX := Aside0.mk hx
  have HK := Aside0.mk hK
  obtain ⟨A1, c1, A2, c2, A3, c3, rfl, _, _, _, _, _, _⟩ := k37_open hK
  have HB : Aside0 (∀ o, Below w0.heap.size w0 (W.alloc o)) := ⟨fun o => below_alloc hB o⟩
  clear hK hx hB
  go_enter Tryd.func23, Tryd.ntmps23
  go_wp2_with fail
  refine (HX.out w0 _ _ (HB.out _) HK.out).mono ?_
  rintro e w2 ⟨rfl, hb⟩
  have HB2 := Aside0.mk (join_below (below1 W _) hb)
  clear hb
  go_wp2
  go_ret
  exact ⟨rfl, HB2.out⟩
set_option maxHeartbeats 2000000 in
set_option maxRecDepth 100000 in
theorem emp_go (x : Pt) (hx : ∀ y, y ∈ x.f3 → EmpC y) : EmpC x := by
  intro w0 W cs hB hK
  obtain ⟨A1, c1, A2, c2, A3, c3, rfl, l1, g1, l2, g2, l3, g3⟩ := k37_open hK
  obtain ⟨res, hres⟩ : ∃ r, empP x = r := ⟨_, rfl⟩
  have hv : empP x = if x.f0 = 1 ∨ x.f0 = 4 ∨ x.f0 = 7 then true else if x.f0 = 5 then !x.f3.any (fun y => !empP y) else if x.f0 = 6 then x.f3.any empP else false := by
    cases x
    rw [empP, empN_eq, empY_eq]
  rw [hres]
  rw [hres] at hv
  have HR := Aside0.mk hv
  have HB := Aside0.mk hB
  have HC := Aside0.mk g3
  have HX := Aside0.mk hx
  clear hB hK hx g1 g2 g3 l1 l2 l3 hres hv
  generalize hf0 : x.f0 = a at HR
  have HF0 := Aside0.mk hf0
  clear hf0
  by_cases c1' : a = 1
  · have hr := HR.out
    subst c1'
    rw [if_pos (by omega)] at hr
    subst hr
    clear HR
    have hf := HF0.out
    go_enter Tryd.func11, Tryd.ntmps11
    go_wp2
    go_ret
    exact ⟨rfl, below1 _ _⟩
  by_cases c4' : a = 4
  · have hr := HR.out
    subst c4'
    rw [if_pos (by omega)] at hr
    subst hr
    clear HR
    have hf := HF0.out
    go_enter Tryd.func11, Tryd.ntmps11
    go_wp2
    go_ret
    exact ⟨rfl, below1 _ _⟩
  by_cases c7' : a = 7
  · have hr := HR.out
    subst c7'
    rw [if_pos (by omega)] at hr
    subst hr
    clear HR
    have hf := HF0.out
    go_enter Tryd.func11, Tryd.ntmps11
    go_wp2
    go_ret
    exact ⟨rfl, below1 _ _⟩
  by_cases c5' : a = 5
  · have hr := HR.out
    subst c5'
    rw [if_neg (by omega), if_pos rfl] at hr
    have HR2 := Aside0.mk hr
    clear hr HR
    have hf := HF0.out
    go_enter Tryd.func11, Tryd.ntmps11
    go_wp2_with fail
    refine (empn_any (fun y => !empP y) x.f3 A3 c3 w0 _ HC.out (below_alloc HB.out _) (fun y cs W' hy hb hK => emp_part (HX.out y hy) w0 W' cs (join_below (below_alloc HB.out _) hb) hK)).mono ?_
    rintro e w2 ⟨rfl, hb⟩
    have HB2 := Aside0.mk (join_below (below1 W _) hb)
    clear hb
    go_wp2
    go_ret
    exact ⟨by rw [HR2.out]; rfl, HB2.out⟩
  by_cases c6' : a = 6
  · have hr := HR.out
    subst c6'
    rw [if_neg (by omega), if_neg (by omega), if_pos rfl] at hr
    have HR2 := Aside0.mk hr
    clear hr HR
    have hf := HF0.out
    go_enter Tryd.func11, Tryd.ntmps11
    go_wp2_with fail
    refine (empy_any empP x.f3 A3 c3 w0 _ HC.out (below_alloc HB.out _) (fun y cs W' hy hb hK => HX.out y hy w0 W' cs (join_below (below_alloc HB.out _) hb) hK)).mono ?_
    rintro e w2 ⟨rfl, hb⟩
    have HB2 := Aside0.mk (join_below (below1 W _) hb)
    clear hb
    go_wp2
    go_ret
    exact ⟨by rw [HR2.out]; rfl, HB2.out⟩
  have hr := HR.out
  rw [if_neg (by omega), if_neg c5', if_neg c6'] at hr
  subst hr
  clear HR
  have h1 : (a == 1) = false := beq_eq_false_iff_ne.2 c1'
  have h4 : (a == 4) = false := beq_eq_false_iff_ne.2 c4'
  have h7 : (a == 7) = false := beq_eq_false_iff_ne.2 c7'
  have h5 : (a == 5) = false := beq_eq_false_iff_ne.2 c5'
  have h6 : (a == 6) = false := beq_eq_false_iff_ne.2 c6'
  clear c1' c4' c7' c5' c6'
  go_enter Tryd.func11, Tryd.ntmps11
  go_wp2
  go_ret
  exact ⟨rfl, below1 _ _⟩
theorem emp_all : ∀ (N : Nat) (x : Pt), SizeOf.sizeOf x < N → EmpC x
  | 0, x, h => absurd h (Nat.not_lt_zero _)
  | N + 1, x, h => emp_go x (fun y hy => emp_all N y (by
      have h1 := List.sizeOf_lt_of_mem hy
      have h2 : SizeOf.sizeOf x.f3 < SizeOf.sizeOf x := by
        cases x
        simp
        omega
      omega))
theorem emp_any (x : Pt) : EmpC x := emp_all (SizeOf.sizeOf x + 1) x (Nat.lt_succ_self _)
end Go.Proofs.YthdfmbmbjpmlaaaDoor.Rn
/- gobolaw11.Make of nothing: lemmas. -/
set_option linter.unusedVariables false
set_option linter.unusedSimpArgs false
namespace Go.Proofs.YthdfmbmbjpmlaaaDoor.Rn
open Go Go.RowKit Go.Proofs.YthdfmbmbjpmlaaaDoorW.PrintWords Go.Proofs.YthdfmbmbjpmlaaaDoorW.PrintLast Go.Proofs.YthdfmbmbjpmlaaaDoorW.PrintMore
/-- a row in a block of its own -/
theorem row_new {α : Type} {k : Kd α} {W : World} {b : Nat} {cs : Array Value} {t : TypeId} {xs : List α} (hb : W.heap[b]? = some (.cells cs t (0, 0))) (hm : xs.length ≤ 9223372036854775807)
    (h : ∀ j x, xs[j]? = some x → ∃ c, c.length = k.sz ∧ k.K W x c ∧ ∀ i u, c[i]? = some u → cs[j * k.sz + i]? = some u) : k.C W (some ⟨b, 0, none⟩) xs.length xs :=
  ⟨rfl, hm, fun _ => ⟨⟨b, 0, none⟩, rfl, fun j x hx => by
    obtain ⟨c, h1, h2, h3⟩ := h j x hx
    refine ⟨c, h1, h2, fun i u hu => ?_⟩
    rw [add_at]
    have := blk_cell hb (j * k.sz + i)
    rw [Nat.zero_add]
    exact this.trans (h3 i u hu)⟩⟩
theorem one_any (a : Int) (w : World) :
    Calls Tryd.prog 16 #[.int .i32 a] w fun e w' => ∃ g c1 A2 c2 X, e = .returned (.agg #[.int .i64 2, .slice (some ⟨g, 0, none⟩) 1 c1, .slice A2 0 c2]) ∧ 1 ≤ c1 ∧ Kd.F k56 w' (fun k => k = g) (some ⟨g, 0, none⟩) 1 [⟨a, a⟩] ∧ w'.heap[g]? = some (.cells X 56 (0, 0)) ∧ k48.C w' A2 0 [] ∧ w.heap.size ≤ g ∧ g < w'.heap.size ∧ Below w.heap.size w w' := by
  refine (gobolaw6_One.calls a 2 [⟨a, a⟩] [] w rfl).mono ?_
  rintro e w' ⟨v1, v2, rfl, h1, h2, hb⟩
  obtain ⟨A2, c2, rfl⟩ := Kd.R_slice h2
  obtain ⟨g, c1, rfl, hg, hg2, X, hX⟩ := Kd.R_form h1 Nat.one_pos
  refine ⟨g, c1, A2, c2, X, rfl, (Kd.R_reads' h1).2.1, Kd.F_mono (Kd.R_F (Kd.R_tight rfl h1)) (fun k hk => by simpa [Value.ownBlock] using hk), hX, (Kd.R_reads' h2).2.2, hg, hg2, hb⟩
theorem hall3 {P : Program} {ops : Array Oper} {md : Region.Mode} {Q : Exit → Act → World → Prop} {S : World → Prop} {i j k : Nat} {o u t : Oper} {fuel : Nat} {listed : Array Bool} {a : Act} {w : World} (hr : Region.ready md ops listed = [i, j, k]) (hi : ops[i]? = some o) (hj : ops[j]? = some u) (hk : ops[k]? = some t)
    (h1 : ∀ K : Act → World → Prop, (∀ a' w', S w' → wpAnyH P md ops Q S fuel (listed.setIfInBounds i true) a' w' → K a' w') → if Region.wanted o (yielded ops a.tmps) = true then o.wp P a w K Q else K (a.put o.dst undef) w)
    (h2 : ∀ K : Act → World → Prop, (∀ a' w', S w' → wpAnyH P md ops Q S fuel (listed.setIfInBounds j true) a' w' → K a' w') → if Region.wanted u (yielded ops a.tmps) = true then u.wp P a w K Q else K (a.put u.dst undef) w)
    (h3 : ∀ K : Act → World → Prop, (∀ a' w', S w' → wpAnyH P md ops Q S fuel (listed.setIfInBounds k true) a' w' → K a' w') → if Region.wanted t (yielded ops a.tmps) = true then t.wp P a w K Q else K (a.put t.dst undef) w) : wpAnyH P md ops Q S (fuel + 1) listed a w := by
  refine wpAnyH_all hr (by simp) (fun m hm => ?_)
  have fin : ∀ (o : Oper), ops[m]? = some o → (∀ K : Act → World → Prop, (∀ a' w', S w' → wpAnyH P md ops Q S fuel (listed.setIfInBounds m true) a' w' → K a' w') → if Region.wanted o (yielded ops a.tmps) = true then o.wp P a w K Q else K (a.put o.dst undef) w) → wpOp P ops Q m (fun a' w' => S w' ∧ wpAnyH P md ops Q S fuel (listed.setIfInBounds m true) a' w') a w := by
    intro o ho h
    have h2 := h (fun a' w' => S w' ∧ wpAnyH P md ops Q S fuel (listed.setIfInBounds m true) a' w') (fun a' w' hs hh => ⟨hs, hh⟩)
    unfold wpOp
    simp only [ho]
    by_cases hw : Region.wanted o (yielded ops a.tmps) = true
    · rw [if_pos hw] at h2 ⊢
      exact .inl h2
    · rw [if_neg hw] at h2 ⊢
      exact h2
  rcases List.mem_cons.1 hm with rfl | hm
  · exact fin o hi h1
  · rcases List.mem_cons.1 hm with rfl | hm
    · exact fin u hj h2
    · obtain rfl := List.mem_singleton.1 hm
      exact fin t hk h3
theorem re_none {W W' : World} {A : Option Addr} (h : k48.C W A 0 []) : k48.C W' A 0 [] := ⟨rfl, by decide, fun h0 => absurd h0 (by decide)⟩
def oneT (a : Int) : Re := ⟨2, [⟨a, a⟩], []⟩
/-- the tokens of a grammar that is made up -/
def madeT : List Tok := [⟨⟨#[97]⟩, 0, 1, oneT 97⟩, ⟨⟨#[98]⟩, 0, 2, ⟨2, [⟨10, 10⟩, ⟨98, 98⟩], []⟩⟩, ⟨⟨#[111]⟩, 1, 3, oneT 99⟩, ⟨⟨#[99]⟩, 2, 4, oneT 100⟩]
theorem range_new {W : World} {g : Nat} (h4 : W.heap[g]? = some (.cells #[.int .i32 10, .int .i32 10, .int .i32 98, .int .i32 98] 56 (0, 0))) : Kd.F k56 W (fun k => k = g) (some ⟨g, 0, none⟩) 2 [⟨10, 10⟩, ⟨98, 98⟩] := fun W' hW => by
  have h5 := (hW g rfl (blk_lt h4)).trans h4
  refine row_new h5 (by decide) (fun j x hx => ?_)
  match j, hx with
  | 0, hx =>
    obtain rfl := Option.some.inj hx
    refine ⟨_, rfl, k56_mk W' _, fun i u hu => ?_⟩
    match i, hu with
    | 0, hu => exact hu
    | 1, hu => exact hu
    | i + 2, hu => simp at hu
  | 1, hx =>
    obtain rfl := Option.some.inj hx
    refine ⟨_, rfl, k56_mk W' _, fun i u hu => ?_⟩
    match i, hu with
    | 0, hu => exact hu
    | 1, hu => exact hu
    | i + 2, hu => simp at hu
  | j + 2, hx => simp at hx
theorem re_noneF {W : World} {ok : Nat → Prop} {A : Option Addr} (h : ∀ W' : World, k48.C W' A 0 []) : Kd.F k48 W ok A 0 [] := fun W' _ => h W'
theorem ne_type {W : World} {a b : Nat} {X Y : Array Value} {t u : TypeId} (ha : W.heap[a]? = some (.cells X t (0, 0))) (hb : W.heap[b]? = some (.cells Y u (0, 0))) (h : t ≠ u) : a ≠ b := fun e => by
  rw [e, hb] at ha
  injection ha with ha
  injection ha with h1 h2
  exact h h2.symm
theorem f_put {W : World} {r : Nat} {g n : Nat} {xs : List S56} (hg : r < g) (p : Addr) {m c : Nat} (h : Kd.F k56 W (fun k => k = g) (some ⟨g, 0, none⟩) n xs) :
    Kd.F k56 ((W.setCell ⟨r, 0, none⟩ (.slice (some p) m c)).setCell ⟨r, 1, none⟩ (.slice none 0 0)) (fun k => k = g) (some ⟨g, 0, none⟩) n xs :=
  Kd.F_far (p := ⟨r, 1, none⟩) (Kd.F_far (p := ⟨r, 0, none⟩) h (fun k hk => by rw [hk]; exact Nat.ne_of_gt hg) _) (fun k hk => by rw [hk]; exact Nat.ne_of_gt hg) _
theorem made_row {W : World} {base gR g4 a0 a1 b1 : Nat} {E0 A2 B2 : Option Addr} {c0 e0 c1 c2 d1 d2 : Nat}
    (hR : W.heap[gR]? = some (.cells #[.string ⟨#[97]⟩, .int .i64 0, .int .i64 1, .int .i64 2, .slice (some ⟨a0, 0, none⟩) 1 c0, .slice E0 0 e0, .string ⟨#[98]⟩, .int .i64 0, .int .i64 2, .int .i64 2, .slice (some ⟨g4, 0, none⟩) 2 2, .slice none 0 0, .string ⟨#[111]⟩, .int .i64 1, .int .i64 3, .int .i64 2, .slice (some ⟨a1, 0, none⟩) 1 c1, .slice A2 0 c2, .string ⟨#[99]⟩, .int .i64 2, .int .i64 4, .int .i64 2, .slice (some ⟨b1, 0, none⟩) 1 d1, .slice B2 0 d2] 50 (0, 0)))
    (hr4 : Kd.F k56 W (fun k => k = g4) (some ⟨g4, 0, none⟩) 2 [⟨10, 10⟩, ⟨98, 98⟩])
    (k0 : 1 ≤ c0) (hA0 : Kd.F k56 W (fun k => k = a0) (some ⟨a0, 0, none⟩) 1 [⟨97, 97⟩]) (hE0 : ∀ W' : World, k48.C W' E0 0 [])
    (k1 : 1 ≤ c1) (hA1 : Kd.F k56 W (fun k => k = a1) (some ⟨a1, 0, none⟩) 1 [⟨99, 99⟩]) (hA2 : ∀ W' : World, k48.C W' A2 0 [])
    (k2 : 1 ≤ d1) (hB1 : Kd.F k56 W (fun k => k = b1) (some ⟨b1, 0, none⟩) 1 [⟨100, 100⟩]) (hB2 : ∀ W' : World, k48.C W' B2 0 [])
    (hb : base ≤ gR) (hb0 : base ≤ a0 ∧ a0 ≠ gR) (hb1 : base ≤ a1 ∧ a1 ≠ gR) (hb2 : base ≤ b1 ∧ b1 ≠ gR) (hb4 : base ≤ g4 ∧ g4 ≠ gR) :
    Kd.N kTok 50 W base (fun k => base ≤ k) (.slice (some ⟨gR, 0, none⟩) 4 4) madeT := by
  have hall : ∀ u ∈ ([.string ⟨#[97]⟩, .int .i64 0, .int .i64 1, .int .i64 2, .slice (some ⟨a0, 0, none⟩) 1 c0, .slice E0 0 e0, .string ⟨#[98]⟩, .int .i64 0, .int .i64 2, .int .i64 2, .slice (some ⟨g4, 0, none⟩) 2 2, .slice none 0 0, .string ⟨#[111]⟩, .int .i64 1, .int .i64 3, .int .i64 2, .slice (some ⟨a1, 0, none⟩) 1 c1, .slice A2 0 c2, .string ⟨#[99]⟩, .int .i64 2, .int .i64 4, .int .i64 2, .slice (some ⟨b1, 0, none⟩) 1 d1, .slice B2 0 d2] : List Value), u.oneCell' = true := by simp [Value.oneCell']
  have ow : (Value.slice (some ⟨gR, 0, none⟩) 4 4).ownBlock = some gR := rfl
  refine ⟨fun k hk => by rw [ow] at hk; injection hk with hk; omega, [[.string ⟨#[97]⟩, .int .i64 0, .int .i64 1, .int .i64 2, .slice (some ⟨a0, 0, none⟩) 1 c0, .slice E0 0 e0], [.string ⟨#[98]⟩, .int .i64 0, .int .i64 2, .int .i64 2, .slice (some ⟨g4, 0, none⟩) 2 2, .slice none 0 0], [.string ⟨#[111]⟩, .int .i64 1, .int .i64 3, .int .i64 2, .slice (some ⟨a1, 0, none⟩) 1 c1, .slice A2 0 c2], [.string ⟨#[99]⟩, .int .i64 2, .int .i64 4, .int .i64 2, .slice (some ⟨b1, 0, none⟩) 1 d1, .slice B2 0 d2]], rfl, ⟨fun k hk => hk.symm, [.string ⟨#[97]⟩, .int .i64 0, .int .i64 1, .int .i64 2, .slice (some ⟨a0, 0, none⟩) 1 c0, .slice E0 0 e0, .string ⟨#[98]⟩, .int .i64 0, .int .i64 2, .int .i64 2, .slice (some ⟨g4, 0, none⟩) 2 2, .slice none 0 0, .string ⟨#[111]⟩, .int .i64 1, .int .i64 3, .int .i64 2, .slice (some ⟨a1, 0, none⟩) 1 c1, .slice A2 0 c2, .string ⟨#[99]⟩, .int .i64 2, .int .i64 4, .int .i64 2, .slice (some ⟨b1, 0, none⟩) 1 d1, .slice B2 0 d2], ⟨rfl, Or.inr ⟨gR, 4, _, rfl, hb, hR, Nat.le_refl _, by unfold maxLen; omega, rfl, rfl⟩⟩, rfl, ?_⟩, ?_⟩
  · intro j p hp
    match j, hp with
    | 0, hp => obtain rfl := Option.some.inj hp; exact ⟨rfl, rfl, fun u hu => hall u (List.mem_of_mem_drop (List.mem_of_mem_take hu))⟩
    | 1, hp => obtain rfl := Option.some.inj hp; exact ⟨rfl, rfl, fun u hu => hall u (List.mem_of_mem_drop (List.mem_of_mem_take hu))⟩
    | 2, hp => obtain rfl := Option.some.inj hp; exact ⟨rfl, rfl, fun u hu => hall u (List.mem_of_mem_drop (List.mem_of_mem_take hu))⟩
    | 3, hp => obtain rfl := Option.some.inj hp; exact ⟨rfl, rfl, fun u hu => hall u (List.mem_of_mem_drop (List.mem_of_mem_take hu))⟩
    | j + 4, hp => simp at hp
  · have mono : ∀ {g : Nat}, base ≤ g ∧ g ≠ gR → ∀ k, k = g → (fun k => base ≤ k ∧ some k ≠ (Value.slice (some ⟨gR, 0, none⟩) 4 4).ownBlock) k := by
      rintro g ⟨h1, h2⟩ k rfl
      exact ⟨h1, by rw [ow]; simpa using h2⟩
    intro j x c hx hc
    match j, hx, hc with
    | 0, hx, hc =>
      obtain rfl := Option.some.inj hx
      obtain rfl := Option.some.inj hc
      exact k50_mkF W _ ⟨⟨#[97]⟩, 0, 1, oneT 97⟩ k0 (Kd.F_mono hA0 (mono hb0)) (Nat.zero_le e0) (re_noneF hE0)
    | 1, hx, hc =>
      obtain rfl := Option.some.inj hx
      obtain rfl := Option.some.inj hc
      exact k50_mkF W _ ⟨⟨#[98]⟩, 0, 2, ⟨2, [⟨10, 10⟩, ⟨98, 98⟩], []⟩⟩ (show 2 ≤ 2 from Nat.le_refl _) (Kd.F_mono hr4 (mono hb4)) (Nat.zero_le 0) (re_noneF (fun W' => (show k48.C W' none 0 [] from ⟨rfl, by decide, fun h => absurd h (by decide)⟩)))
    | 2, hx, hc =>
      obtain rfl := Option.some.inj hx
      obtain rfl := Option.some.inj hc
      exact k50_mkF W _ ⟨⟨#[111]⟩, 1, 3, oneT 99⟩ k1 (Kd.F_mono hA1 (mono hb1)) (Nat.zero_le c2) (re_noneF hA2)
    | 3, hx, hc =>
      obtain rfl := Option.some.inj hx
      obtain rfl := Option.some.inj hc
      exact k50_mkF W _ ⟨⟨#[99]⟩, 2, 4, oneT 100⟩ k2 (Kd.F_mono hB1 (mono hb2)) (Nat.zero_le d2) (re_noneF hB2)
    | j + 4, hx, hc => simp [madeT] at hx
end Go.Proofs.YthdfmbmbjpmlaaaDoor.Rn
