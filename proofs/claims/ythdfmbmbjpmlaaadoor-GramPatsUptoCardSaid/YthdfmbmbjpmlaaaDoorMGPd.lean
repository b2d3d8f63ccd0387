/- texts of this claim, one behind the other. -/
import Derived.Test.YthdfmbmbjpmlaaaDoorMGPc
import Derived.Deep.DeepCutAuto
import Derived.StillTailTactics
import Derived.Test.YthdfmbmbjpmlaaaDoorMGPa
import Derived.Test.YthdfmbmbjpmlaaaDoorMGPb
import Derived.Tactics
import Derived.Tactics2
import Derived.Defers
import Derived.Recover
import Derived.Deep.QuietTactic
import Derived.BigQuiet
section
set_option linter.unusedVariables false
set_option linter.unusedSimpArgs false
namespace Go.Proofs.YthdfmbmbjpmlaaaDoor.Rn
open Go Go.RowKit Go.Proofs.YthdfmbmbjpmlaaaDoorW.PrintWords Go.Proofs.YthdfmbmbjpmlaaaDoorW.PrintLast Go.Proofs.YthdfmbmbjpmlaaaDoorW.PrintMore
def numS (r : Int) : Int := (runes_number.f r).getD 0
def behS (r : Int) : Int := (runes_behind.f r).getD 0
theorem num_f (r : Int) : runes_number.f r = some (numS r) := by
 unfold numS runes_number.f
 by_cases h1 : r < 0
 · simp only [if_pos h1, Option.getD_some]
 by_cases h2 : r < 55296
 · simp only [if_neg h1, if_pos h2, Option.getD_some]
 by_cases h3 : r ≤ 57343
 · simp only [if_neg h1, if_neg h2, if_pos h3, Option.getD_some]
 · simp only [if_neg h1, if_neg h2, if_neg h3, Option.getD_some]
theorem beh_f (r : Int) : runes_behind.f r = some (behS r) := by
 unfold behS runes_behind.f
 rw [num_f, is_f]
 simp only [Option.bind_some]
 cases h : isS r
 · simp
 · simp
def keepS (x : Rg) : List Sp := if x.f0 ≤ x.f1 ∧ numS x.f0 < behS x.f1 then [⟨numS x.f0, behS x.f1⟩] else []
def rawS (l : List Rg) : List Sp := l.flatMap keepS
theorem rawS_snoc (l : List Rg) (k : Nat) (x : Rg) (h : l[k]? = some x) : rawS (l.take (k + 1)) = rawS (l.take k) ++ keepS x := by
 unfold rawS
 rw [List.take_add_one, h, List.flatMap_append]
 simp
theorem rawS_len (l : List Rg) : (rawS l).length ≤ l.length := by
 induction l with
 | nil => simp [rawS]
 | cons x l ih =>
  unfold rawS at *
  rw [List.flatMap_cons, List.length_append, List.length_cons]
  have : (keepS x).length ≤ 1 := by unfold keepS; split <;> simp
  omega
theorem rawS_take (l : List Rg) (k : Nat) : (rawS (l.take k)).length ≤ k := by
 have := rawS_len (l.take k)
 rw [List.length_take] at this
 omega
theorem R_append50 {P : Program} {ops : Array Oper} {o : Oper} {a : Act} {Q : Exit → Act → World → Prop} {rest : List Oper} (hP : P = Tryd.prog) {w0 W : World} (base : Nat) (hgd : o.guard = none) (s x : Operand)
 (ho : o.op = .call { callee := .builtin .append, args := #[s, x], argTypes := #[102, 102] })
 (A : Option Addr) (c n : Nat) (xs : List Sp) (p : Sp) (hs : a.eval s = .slice A n c) (hn : xs.length = n) (hx : a.eval x = .slice (some ⟨W.heap.size, 0, none⟩) 1 1)
 (HO : Kd.R k105 105 W base (fun _ => True) (.slice A n c) xs) (HB : Below base w0 W) (hbase : base ≤ W.heap.size) (hl : (xs.length + 1) * 16 ≤ 140737488355328)
 (h : ∀ A1 c1 w1, Kd.R k105 105 w1 base (fun _ => True) (.slice A1 (n + 1) c1) (xs ++ [p]) → Below base w0 w1 → W.grownBy w1 (Value.slice A n c).ownBlock → ((Value.slice A1 (n + 1) c1).ownBlock = (Value.slice A n c).ownBlock ∨ ∃ b, (Value.slice A1 (n + 1) c1).ownBlock = some b ∧ W.heap.size ≤ b) → wpList P ops Q rest (a.put o.dst (.slice A1 (n + 1) c1)) w1) :
 wpList P ops Q (o :: rest) a (W.alloc (.cells #[.int .i64 p.f0, .int .i64 p.f1] 105)) := by
 subst hP hn
 exact R_appendS k105 (w0 := w0) base hgd s x 102 105 (.agg #[.int .i64 0, .int .i64 0]) 16 ho Tryd.underlying102 info105 rfl (by decide) (by decide) (.slice A xs.length c) xs p _ (fun _ => True) (fun _ => False) hs hx (k105_mkM _ _ _ p) (fun _ h => h.elim) (fun _ _ => trivial) HO HB hbase hl h
def okR (l : List Rg) : Bool := decide (l.length ≤ 1000000) && l.all (fun x => decide (-2147483648 ≤ x.f0) && decide (x.f0 < 2147483648) && decide (-2147483648 ≤ x.f1) && decide (x.f1 < 2147483648))
def spansS (l : List Rg) : List Sp := nfS (rawS l)
def runes_spans.f (l0 : List Rg) : Option (List Sp) := if okR l0 = true then some (spansS l0) else none
def KeptAt (l0 : List Rg) (w : World) (k : Nat) (A1 : Option Addr) (c1 : Nat) (W : World) : Prop :=
 Kd.R k105 105 W w.heap.size (fun _ => True) (.slice A1 (rawS (l0.take k)).length c1) (rawS (l0.take k)) ∧ Below w.heap.size w W
theorem num_nonneg {r : Int} (h1 : -2147483648 ≤ r) (h2 : r < 2147483648) : 0 ≤ numS r := by
 unfold numS runes_number.f
 by_cases c1 : r < 0
 · simp [c1]
 by_cases c2 : r < 55296
 · simp only [if_neg c1, if_pos c2, Option.getD_some]
   unfold wrap64
   omega
 by_cases c3 : r ≤ 57343
 · simp [c1, c2, c3]
 · simp only [if_neg c1, if_neg c2, if_neg c3, Option.getD_some]
   unfold mn wrap64
   split <;> omega
theorem okR_at {l : List Rg} (h : okR l = true) : ∀ x, x ∈ l → -2147483648 ≤ x.f0 ∧ x.f0 < 2147483648 ∧ -2147483648 ≤ x.f1 ∧ x.f1 < 2147483648 := fun x hx => by
 unfold okR at h
 simp only [Bool.and_eq_true, decide_eq_true_eq, List.all_eq_true] at h
 have h2 := h.2 x hx
 omega
theorem rawS_valid {l : List Rg} (h : okR l = true) : ∀ x, x ∈ rawS l → 0 ≤ x.1 ∧ x.1 < x.2 := fun x hx => by
 obtain ⟨y, hy, hxy⟩ := List.mem_flatMap.1 hx
 have hb := okR_at h y hy
 unfold keepS at hxy
 by_cases c : y.f0 ≤ y.f1 ∧ numS y.f0 < behS y.f1
 · rw [if_pos c] at hxy
   obtain rfl := List.mem_singleton.1 hxy
   exact ⟨num_nonneg hb.1 hb.2.1, c.2⟩
 · rw [if_neg c] at hxy
   cases hxy
theorem sp_own {W : World} {base n c : Nat} {ok : Nat → Prop} {A : Option Addr} {xs : List Sp} (h : Kd.R k105 105 W base ok (.slice A n c) xs) (hn : 0 < xs.length) :
 ∃ g, A = some ⟨g, 0, none⟩ ∧ base ≤ g ∧ (∃ cur, W.heap[g]? = some (.cells cur 105 (0, 0))) ∧ ∀ j x, xs[j]? = some x → W.cell? ⟨g, j * 2, none⟩ = some (.int .i64 x.f0) ∧ W.cell? ⟨g, j * 2 + 1, none⟩ = some (.int .i64 x.f1) := by
 obtain ⟨_, inner, ho, hr⟩ := h
 rcases ho.2 with ⟨_, h1⟩ | ⟨g, cap, cur, hv, hbg, hg, hnc, hcm, hcs, htake⟩
 · omega
 injection hv with hA _ hc
 subst hA hc
 refine ⟨g, rfl, hbg, ⟨cur, hg⟩, fun j x hx => ?_⟩
 have hj : j < xs.length := (List.getElem?_eq_some_iff.1 hx).1
 have htake2 : cur.toList.take (xs.length * 2) = inner := htake
 have hfl : ∀ t, t < xs.length * 2 → cur[t]? = some ((encS (xs.toArray[t / 2]!))[t % 2]!) := fun t ht => by
  have h2 := flat_inner (fun x cs h => k105_openM h) hr t ht
  rw [← htake2, List.getElem?_take, if_pos ht] at h2
  simpa using h2
 have hxj : xs.toArray[j]! = x := by
  have := (List.getElem?_eq_some_iff.1 hx).2
  simp [hj]
  exact this
 refine ⟨?_, ?_⟩
 · rw [blk_cell hg, hfl _ (by omega), show j * 2 / 2 = j by omega, show j * 2 % 2 = 0 by omega, hxj]
   rfl
 · rw [blk_cell hg, hfl _ (by omega), show (j * 2 + 1) / 2 = j by omega, show (j * 2 + 1) % 2 = 1 by omega, hxj]
   rfl
def MergedAt (w5 : World) (ys : List Sp) (k : Nat) (A2 : Option Addr) (c2 : Nat) (W : World) : Prop :=
 Kd.R k105 105 W w5.heap.size (fun _ => True) (.slice A2 (mergeS (ys.take k)).length c2) (mergeS (ys.take k)) ∧ Below w5.heap.size w5 W
theorem mergeS_len (l : List Sp) : ∀ k, (mergeS (l.take k)).length ≤ k := by
 intro k
 induction k with
 | zero => simp [mergeS]
 | succ k ih =>
  by_cases h : k < l.length
  · rw [List.take_succ_eq_append_getElem h, mergeS_snoc]
    rcases List.eq_nil_or_concat (mergeS (l.take k)) with h2 | ⟨p, y, h2⟩
    · rw [h2]
      simp [stepM]
    · rw [h2, List.concat_eq_append, stepM_snoc]
      rw [h2, List.concat_eq_append, List.length_append, List.length_singleton] at ih
      split <;> simp <;> omega
  · rw [List.take_of_length_le (by omega)]
    rw [List.take_of_length_le (by omega)] at ih
    omega
set_option maxHeartbeats 4000000 in
set_option maxRecDepth 100000 in
theorem runes_spans.calls (A0 : Option Addr) (c0 : Nat) (l0 : List Rg) (r : List Sp) (w : World) (hr0 : Kd.C k56 w A0 l0.length l0) (hc0 : l0.length ≤ c0) (h : runes_spans.f l0 = some r) :
 Calls Tryd.prog 70 #[.slice A0 l0.length c0] w fun e w' => ∃ v0_ : Value, e = .returned (v0_) ∧ Kd.R k105 105 w' w.heap.size (fun _ => True) v0_ r ∧ Below w.heap.size w w' := by
 have hok : okR l0 = true := by
  unfold runes_spans.f at h
  by_cases h1 : okR l0 = true
  · exact h1
  · rw [if_neg h1] at h
    cases h
 have hr : spansS l0 = r := by
  unfold runes_spans.f at h
  rw [if_pos hok] at h
  exact Option.some.inj h
 have hl : l0.length ≤ 1000000 := by
  unfold okR at hok
  simp only [Bool.and_eq_true, decide_eq_true_eq] at hok
  exact hok.1
 have HOK := Aside0.mk hok
 have HR := Aside0.mk hr
 have HC := Aside0.mk hr0
 clear h hok hr hr0
 go_enter Tryd.func70, Tryd.ntmps70
 go_wp2
 go_loopw [3, 13] (fun s i W => ∃ (k : Nat) (A1 : Option Addr) (c1 : Nat), i = .int .i64 k ∧ k ≤ l0.length ∧ s = .slice A1 (rawS (l0.take k)).length c1 ∧ Aside0 (KeptAt l0 w k A1 c1 W)) (fun _ i _ => l0.length - (intOf i).toNat)
 case atStart => exact ⟨0, none, 0, rfl, Nat.zero_le _, rfl, ⟨Kd.R_nil _ _ _ _ _, Below.refl _ _⟩⟩
 case round =>
  obtain ⟨k, A1, c1, rfl, hkl, rfl, HK⟩ := hrel
  by_cases hlt : k < l0.length
  · obtain ⟨g, o, rfl, _, hcell⟩ := rg_cells HC.out (by omega)
    obtain ⟨x, hx⟩ : ∃ x, l0[k]? = some x := ⟨_, List.getElem?_eq_getElem hlt⟩
    obtain ⟨x0, x1⟩ := hcell k x hx
    have y0 := (HK.out.2.cell (p := ⟨g, o + k * 2, none⟩) (blk_lt' x0)).trans x0
    have y1 := (HK.out.2.cell (p := ⟨g, o + k * 2 + 1, none⟩) (blk_lt' x1)).trans x1
    have HSN := Aside0.mk (rawS_snoc l0 k x hx)
    have HRL := Aside0.mk (rawS_take l0 k)
    clear hcell hx x0 x1
    obtain ⟨lo, hi⟩ := x
    dsimp only at y0 y1
    go_upto_region 5 with (fail)
    obtain ⟨w3, hw3⟩ : ∃ w3, wr.alloc (Obj.cells #[.int .i32 lo, .int .i32 hi] 56) = w3 := ⟨_, rfl⟩
    rw [hw3]
    obtain ⟨gb, hgb⟩ : ∃ gb, wr.heap.size = gb := ⟨_, rfl⟩
    rw [hgb]
    have hbox : w3.heap[gb]? = some (.cells #[.int .i32 lo, .int .i32 hi] 56 (0, 0)) := by rw [← hw3, ← hgb]; exact blk_new _ _
    have HBOX := Aside0.mk hbox
    have HB3 : Aside0 (Below w.heap.size w w3) := ⟨hw3 ▸ below_alloc HK.out.2 _⟩
    have HR3 : Aside0 (Kd.R k105 105 w3 w.heap.size (fun _ => True) (.slice A1 (rawS (l0.take k)).length c1) (rawS (l0.take k))) := ⟨hw3 ▸ Kd.R_alloc HK.out.1 _⟩
    obtain ⟨a, ha⟩ : ∃ a, numS lo = a := ⟨_, rfl⟩
    obtain ⟨b, hb⟩ : ∃ b, behS hi = b := ⟨_, rfl⟩
    have HNA : Aside0 (runes_number.f lo = some a) := ⟨by rw [num_f, ha]⟩
    have HNB : Aside0 (runes_behind.f hi = some b) := ⟨by rw [beh_f, hb]⟩
    have HKEEP : Aside0 (keepS ⟨lo, hi⟩ = if lo ≤ hi ∧ a < b then [⟨a, b⟩] else []) := ⟨by unfold keepS; rw [ha, hb]⟩
    clear hw3 hgb ha hb y0 y1 HK
    go_cut [6] (fun v6 W => ∃ g6 : Nat, v6 = .pointer (some ⟨g6, 0, none⟩) ∧ Aside0 (W.heap[g6]? = some (.cells #[.int .i64 a, .int .i64 b] 105 (0, 0)) ∧ Below w3.heap.size w3 W))
    case first =>
     have q0 : ∀ p : Later w3, p.wx.cell? ⟨gb, 0, none⟩ = some (.int .i32 lo) := fun p => cell_after p.below ((blk_cell hbox 0).trans rfl)
     have q1 : ∀ p : Later w3, p.wx.cell? ⟨gb, 1, none⟩ = some (.int .i32 hi) := fun p => cell_after p.below ((blk_cell hbox 1).trans rfl)
     have HLAT : Aside0 (Below w3.heap.size w3 w3.drew) := ⟨below_drew1 (Below.refl _ _)⟩
     clear hbox
     refine wp_region_held (S := fun w' => ∃ p : Later w3, w' = p.wx) (by kernel_rfl) ?_
     change wpAnyH _ _ _ _ _ _ _ _ (World.drew _)
     ((refine takeQ (i := 0) (by rfl) (by kernel_rfl) (by kernel_rfl) (by kernel_rfl) ?_ ?_ ?_); (focus first | exact fun _ _ _ _ h => h | exact fun _ _ _ _ h => HPQ.out _ _ _ _ (by rfl) h); (focus exact ⟨⟨_, HLAT.out⟩, rfl⟩); intro K hK; go_simp; (with_reducible refine hK _ ?_); clear hK K)
     ((refine takeQ (i := 1) (by rfl) (by kernel_rfl) (by kernel_rfl) (by kernel_rfl) ?_ ?_ ?_); (focus first | exact fun _ _ _ _ h => h | exact fun _ _ _ _ h => HPQ.out _ _ _ _ (by rfl) h); (focus exact ⟨⟨_, HLAT.out⟩, rfl⟩); intro K hK; go_simp; (with_reducible refine hK _ ?_); clear hK K)
     ((refine takeQ (i := 3) (by rfl) (by kernel_rfl) (by kernel_rfl) (by kernel_rfl) ?_ ?_ ?_); (focus first | exact fun _ _ _ _ h => h | exact fun _ _ _ _ h => HPQ.out _ _ _ _ (by rfl) h); (focus exact ⟨⟨_, HLAT.out⟩, rfl⟩); intro K hK; go_simp; (with_reducible refine hK _ ?_); clear hK K)
     ((refine takeQ (i := 4) (by rfl) (by kernel_rfl) (by kernel_rfl) (by kernel_rfl) ?_ ?_ ?_); (focus first | exact fun _ _ _ _ h => h | exact fun _ _ _ _ h => HPQ.out _ _ _ _ (by rfl) h); (focus exact ⟨⟨_, HLAT.out⟩, rfl⟩); intro K hK; go_simp; (with_reducible refine hK _ ?_); clear hK K)
     clear q0 q1
     refine hall2 (i := 2) (j := 7) (by kernel_rfl) (by rfl) (by rfl) (fun K hK => ?_) (fun K hK => ?_)
     · go_simp
       refine (runes_number.calls lo a _ HNA.out).mono ?_
       rintro e w4 ⟨rfl, hb4⟩
       have HLw4 : Aside0 (Below w3.heap.size w3 w4) := ⟨join_below HLAT.out hb4⟩
       clear hb4
       refine hK _ _ ⟨⟨_, HLw4.out⟩, rfl⟩ ?_
       clear hK K
       refine hall2 (i := 5) (j := 7) (by kernel_rfl) (by rfl) (by rfl) (fun K hK => ?_) (fun K hK => ?_)
       · go_simp
         refine (runes_behind.calls hi b _ HNB.out).mono ?_
         rintro e w5 ⟨rfl, hb4⟩
         have HLw5 : Aside0 (Below w3.heap.size w3 w5) := ⟨join_below HLw4.out hb4⟩
         clear hb4
         refine hK _ _ ⟨⟨_, HLw5.out⟩, rfl⟩ ?_
         clear hK K
         ((refine takeQ (i := 6) (by rfl) (by kernel_rfl) (by kernel_rfl) (by kernel_rfl) ?_ ?_ ?_); (focus first | exact fun _ _ _ _ h => h | exact fun _ _ _ _ h => HPQ.out _ _ _ _ (by rfl) h); (focus exact ⟨⟨_, HLw5.out⟩, rfl⟩); intro K hK; go_simp; (with_reducible refine hK _ ?_); clear hK K)
         refine hall1 (i := 7) (by kernel_rfl) (by rfl) (fun K hK => ?_)
         go_simp
         obtain ⟨wA, hwA⟩ : ∃ wA, w5.alloc (Obj.cells #[.int .i64 0, .int .i64 0] 105) = wA := ⟨_, rfl⟩
         rw [hwA]
         obtain ⟨g6, hg6⟩ : ∃ g6, w5.heap.size = g6 := ⟨_, rfl⟩
         rw [hg6]
         have HN6 : Aside0 (wA.heap[g6]? = some (.cells #[.int .i64 0, .int .i64 0] 105 (0, 0))) := ⟨by rw [← hwA, ← hg6]; exact blk_new _ _⟩
         have HLA : Aside0 (Below w3.heap.size w3 wA) := ⟨hwA ▸ below_alloc HLw5.out _⟩
         have HGE : Aside0 (w3.heap.size ≤ g6) := ⟨hg6 ▸ HLw5.out.size⟩
         clear hwA hg6
         refine hK _ _ ⟨⟨_, HLA.out⟩, rfl⟩ ?_
         clear hK K
         have c60 : wA.cell? ⟨g6, 0, none⟩ = some (.int .i64 0) := (blk_cell HN6.out 0).trans rfl
         have c61 : wA.cell? ⟨g6, 1, none⟩ = some (.int .i64 0) := (blk_cell HN6.out 1).trans rfl
         have f60 : wA.frozen? ⟨g6, 0, none⟩ = false := blk_frozen HN6.out 0
         have f61 : wA.frozen? ⟨g6, 1, none⟩ = false := blk_frozen HN6.out 1
         refine hall1 (i := 8) (by kernel_rfl) (by rfl) (fun K hK => ?_)
         go_simp
         have HLZ : Aside0 (Below w3.heap.size w3 ((wA.setCell ⟨g6, 0, none⟩ (.int .i64 a)).setCell ⟨g6, 1, none⟩ (.int .i64 b))) := ⟨(HLA.out.setCell (p := ⟨g6, 0, none⟩) HGE.out _).setCell (p := ⟨g6, 1, none⟩) HGE.out _⟩
         refine hK _ _ ⟨⟨_, HLZ.out⟩, rfl⟩ ?_
         clear hK K
         refine wpAnyH_done (by kernel_rfl) ?_ _
         clear c60 c61 f60 f61
         go_wp2
         go_meet
         case rel => exact ⟨g6, rfl, ⟨blk_put (blk_put HN6.out 0 _ rfl) 1 _ rfl, HLZ.out⟩⟩
       · go_simp
         obtain ⟨wA, hwA⟩ : ∃ wA, w4.alloc (Obj.cells #[.int .i64 0, .int .i64 0] 105) = wA := ⟨_, rfl⟩
         rw [hwA]
         obtain ⟨g6, hg6⟩ : ∃ g6, w4.heap.size = g6 := ⟨_, rfl⟩
         rw [hg6]
         have HN6 : Aside0 (wA.heap[g6]? = some (.cells #[.int .i64 0, .int .i64 0] 105 (0, 0))) := ⟨by rw [← hwA, ← hg6]; exact blk_new _ _⟩
         have HLA : Aside0 (Below w3.heap.size w3 wA) := ⟨hwA ▸ below_alloc HLw4.out _⟩
         have HGE : Aside0 (w3.heap.size ≤ g6) := ⟨hg6 ▸ HLw4.out.size⟩
         clear hwA hg6
         refine hK _ _ ⟨⟨_, HLA.out⟩, rfl⟩ ?_
         clear hK K
         refine hall1 (i := 5) (by kernel_rfl) (by rfl) (fun K hK => ?_)
         go_simp
         refine (runes_behind.calls hi b _ HNB.out).mono ?_
         rintro e w5 ⟨rfl, hb4⟩
         have HLw5 : Aside0 (Below w3.heap.size w3 w5) := ⟨join_below HLA.out hb4⟩
         have HN6 := Aside0.mk ((hb4.block g6 (blk_lt HN6.out)).trans HN6.out)
         clear hb4
         refine hK _ _ ⟨⟨_, HLw5.out⟩, rfl⟩ ?_
         clear hK K
         ((refine takeQ (i := 6) (by rfl) (by kernel_rfl) (by kernel_rfl) (by kernel_rfl) ?_ ?_ ?_); (focus first | exact fun _ _ _ _ h => h | exact fun _ _ _ _ h => HPQ.out _ _ _ _ (by rfl) h); (focus exact ⟨⟨_, HLw5.out⟩, rfl⟩); intro K hK; go_simp; (with_reducible refine hK _ ?_); clear hK K)
         have c60 : w5.cell? ⟨g6, 0, none⟩ = some (.int .i64 0) := (blk_cell HN6.out 0).trans rfl
         have c61 : w5.cell? ⟨g6, 1, none⟩ = some (.int .i64 0) := (blk_cell HN6.out 1).trans rfl
         have f60 : w5.frozen? ⟨g6, 0, none⟩ = false := blk_frozen HN6.out 0
         have f61 : w5.frozen? ⟨g6, 1, none⟩ = false := blk_frozen HN6.out 1
         refine hall1 (i := 8) (by kernel_rfl) (by rfl) (fun K hK => ?_)
         go_simp
         have HLZ : Aside0 (Below w3.heap.size w3 ((w5.setCell ⟨g6, 0, none⟩ (.int .i64 a)).setCell ⟨g6, 1, none⟩ (.int .i64 b))) := ⟨(HLw5.out.setCell (p := ⟨g6, 0, none⟩) HGE.out _).setCell (p := ⟨g6, 1, none⟩) HGE.out _⟩
         refine hK _ _ ⟨⟨_, HLZ.out⟩, rfl⟩ ?_
         clear hK K
         refine wpAnyH_done (by kernel_rfl) ?_ _
         clear c60 c61 f60 f61
         go_wp2
         go_meet
         case rel => exact ⟨g6, rfl, ⟨blk_put (blk_put HN6.out 0 _ rfl) 1 _ rfl, HLZ.out⟩⟩
     · go_simp
       obtain ⟨wA, hwA⟩ : ∃ wA, (w3.alloc (Obj.cells #[.int .i64 0, .int .i64 0] 105)).drew = wA := ⟨_, rfl⟩
       rw [hwA]
       obtain ⟨g6, hg6⟩ : ∃ g6, w3.heap.size = g6 := ⟨_, rfl⟩
       rw [hg6]
       have HN6 : Aside0 (wA.heap[g6]? = some (.cells #[.int .i64 0, .int .i64 0] 105 (0, 0))) := ⟨by rw [← hwA, ← hg6]; exact blk_new w3 _⟩
       have HLA : Aside0 (Below w3.heap.size w3 wA) := ⟨hwA ▸ below_drew1 (below1 w3 _)⟩
       have HGE : Aside0 (w3.heap.size ≤ g6) := ⟨Nat.le_of_eq hg6⟩
       clear hwA hg6
       refine hK _ _ ⟨⟨_, HLA.out⟩, rfl⟩ ?_
       clear hK K
       refine hall1 (i := 2) (by kernel_rfl) (by rfl) (fun K hK => ?_)
       go_simp
       refine (runes_number.calls lo a _ HNA.out).mono ?_
       rintro e w4 ⟨rfl, hb4⟩
       have HLw4 : Aside0 (Below w3.heap.size w3 w4) := ⟨join_below HLA.out hb4⟩
       have HN6 := Aside0.mk ((hb4.block g6 (blk_lt HN6.out)).trans HN6.out)
       clear hb4
       refine hK _ _ ⟨⟨_, HLw4.out⟩, rfl⟩ ?_
       clear hK K
       refine hall1 (i := 5) (by kernel_rfl) (by rfl) (fun K hK => ?_)
       go_simp
       refine (runes_behind.calls hi b _ HNB.out).mono ?_
       rintro e w5 ⟨rfl, hb4⟩
       have HLw5 : Aside0 (Below w3.heap.size w3 w5) := ⟨join_below HLw4.out hb4⟩
       have HN6 := Aside0.mk ((hb4.block g6 (blk_lt HN6.out)).trans HN6.out)
       clear hb4
       refine hK _ _ ⟨⟨_, HLw5.out⟩, rfl⟩ ?_
       clear hK K
       ((refine takeQ (i := 6) (by rfl) (by kernel_rfl) (by kernel_rfl) (by kernel_rfl) ?_ ?_ ?_); (focus first | exact fun _ _ _ _ h => h | exact fun _ _ _ _ h => HPQ.out _ _ _ _ (by rfl) h); (focus exact ⟨⟨_, HLw5.out⟩, rfl⟩); intro K hK; go_simp; (with_reducible refine hK _ ?_); clear hK K)
       have c60 : w5.cell? ⟨g6, 0, none⟩ = some (.int .i64 0) := (blk_cell HN6.out 0).trans rfl
       have c61 : w5.cell? ⟨g6, 1, none⟩ = some (.int .i64 0) := (blk_cell HN6.out 1).trans rfl
       have f60 : w5.frozen? ⟨g6, 0, none⟩ = false := blk_frozen HN6.out 0
       have f61 : w5.frozen? ⟨g6, 1, none⟩ = false := blk_frozen HN6.out 1
       refine hall1 (i := 8) (by kernel_rfl) (by rfl) (fun K hK => ?_)
       go_simp
       have HLZ : Aside0 (Below w3.heap.size w3 ((w5.setCell ⟨g6, 0, none⟩ (.int .i64 a)).setCell ⟨g6, 1, none⟩ (.int .i64 b))) := ⟨(HLw5.out.setCell (p := ⟨g6, 0, none⟩) HGE.out _).setCell (p := ⟨g6, 1, none⟩) HGE.out _⟩
       refine hK _ _ ⟨⟨_, HLZ.out⟩, rfl⟩ ?_
       clear hK K
       refine wpAnyH_done (by kernel_rfl) ?_ _
       clear c60 c61 f60 f61
       go_wp2
       go_meet
       case rel => exact ⟨g6, rfl, ⟨blk_put (blk_put HN6.out 0 _ rfl) 1 _ rfl, HLZ.out⟩⟩
    case rest =>
     obtain ⟨g6, rfl, HE⟩ := hcut
     have HBOX4 := Aside0.mk ((HE.out.2.block gb (blk_lt HBOX.out)).trans HBOX.out)
     have b0 : wc.cell? ⟨gb, 0, none⟩ = some (.int .i32 lo) := (blk_cell HBOX4.out 0).trans rfl
     have b1 : wc.cell? ⟨gb, 1, none⟩ = some (.int .i32 hi) := (blk_cell HBOX4.out 1).trans rfl
     have s0 : wc.cell? ⟨g6, 0, none⟩ = some (.int .i64 a) := (blk_cell HE.out.1 0).trans rfl
     have s1 : wc.cell? ⟨g6, 1, none⟩ = some (.int .i64 b) := (blk_cell HE.out.1 1).trans rfl
     have HB4 := Aside0.mk (join_below HB3.out HE.out.2)
     have HR4 := Aside0.mk (Kd.R_below HR3.out HE.out.2)
     clear hbox
     by_cases h1 : lo ≤ hi
     · by_cases h2 : a < b
       · have HK5 : Aside0 (rawS (l0.take (k + 1)) = rawS (l0.take k) ++ [⟨a, b⟩]) := ⟨by rw [HSN.out, HKEEP.out, if_pos ⟨h1, h2⟩]⟩
         go_wp2_with ((with_reducible refine gate_builtin (b := .append) (xs := #[.tmp 36, .tmp 38]) rfl ?_); refine R_append50 rfl (w0 := wc) w.heap.size rfl (.tmp 36) (.tmp 38) rfl A1 c1 (rawS (l0.take k)).length (rawS (l0.take k)) ⟨a, b⟩ rfl rfl rfl HR4.out (Below.refl _ _) HB4.out.size ?hl ?_; (case hl => have := HRL.out; omega); intro A5 c5 w5 hR5 hb5 hg5 hn5)
         go_roundw
         case rel => exact ⟨k + 1, A5, c5, by go_num, by omega, by rw [HK5.out]; simp, ⟨by unfold KeptAt; rw [HK5.out, List.length_append]; exact ⟨hR5, HB4.out.trans hb5⟩⟩⟩
         case measure => simp [intOf]; omega
       · have HK5 : Aside0 (rawS (l0.take (k + 1)) = rawS (l0.take k)) := ⟨by rw [HSN.out, HKEEP.out, if_neg (fun h => h2 h.2), List.append_nil]⟩
         go_wp2
         repeat (go_quiet (fail); try go_wp2)
         go_roundw
         case rel => exact ⟨k + 1, A1, c1, by go_num, by omega, by rw [HK5.out], ⟨by unfold KeptAt; rw [HK5.out]; exact ⟨HR4.out, HB4.out⟩⟩⟩
         case measure => simp [intOf]; omega
     · have HK5 : Aside0 (rawS (l0.take (k + 1)) = rawS (l0.take k)) := ⟨by rw [HSN.out, HKEEP.out, if_neg (fun h => h1 h.1), List.append_nil]⟩
       have hd1 : decide (lo ≤ hi) = false := decide_eq_false h1
       go_wp2
       repeat (go_quiet (fail); try go_wp2)
       go_roundw
       case rel => exact ⟨k + 1, A1, c1, by go_num, by omega, by rw [HK5.out], ⟨by unfold KeptAt; rw [HK5.out]; exact ⟨HR4.out, HB4.out⟩⟩⟩
       case measure => simp [intOf]; omega
  · have e : l0.take k = l0 := List.take_of_length_le (by omega)
    obtain ⟨hR1, hB1⟩ := HK.out
    have hxl : (rawS l0).length ≤ 1000000 := Nat.le_trans (rawS_len l0) hl
    rw [e] at hR1 ⊢
    have HFIN : Aside0 (∀ ys : List Sp, (∀ x, x ∈ ys ↔ x ∈ rawS l0) → (∀ i j (hi : i < j) (hj : j < ys.length), (ys[i]'(by omega)).1 ≤ ys[j].1) → mergeS ys = r ∧ ∀ x, x ∈ ys → 0 ≤ x.1 ∧ x.1 < x.2) := ⟨fun ys h1 h2 => ⟨(merge_any h1 h2 (rawS_valid HOK.out)).trans HR.out, fun x hx => rawS_valid HOK.out x ((h1 x).1 hx)⟩⟩
    obtain ⟨xs, hxs⟩ : ∃ xs, rawS l0 = xs := ⟨_, rfl⟩
    rw [hxs] at hR1 hxl HFIN ⊢
    have HR1 := Aside0.mk hR1
    have HB1 := Aside0.mk hB1
    clear e hR1 hB1 hxs HK HR HOK
    go_wp2_with fail
    refine (sort_any A1 xs c1 w.heap.size _ HR1.out (by omega)).mono ?_
    rintro e w5 ⟨rfl, ys, hyl, hym, hys, hR5, hb5⟩
    have HF := Aside0.mk (HFIN.out ys hym hys)
    have HM := Aside0.mk (merged_all ys hys HF.out.2)
    have HY5 : Aside0 (Kd.R k105 105 w5 w.heap.size (fun _ => True) (.slice A1 ys.length c1) ys) := ⟨by rw [hyl]; exact hR5⟩
    have HB5 := Aside0.mk (HB1.out.trans hb5)
    rw [← hyl]
    have hyb : ys.length ≤ 1000000 := by omega
    clear hyl hym hys hR5 hb5 HFIN HR1 HB1 hxl
    go_wp2_with fail
    go_loopw [7, 45] (fun v i W => ∃ (k : Nat) (A2 : Option Addr) (c2 : Nat), i = .int .i64 k ∧ k ≤ ys.length ∧ v = .slice A2 (mergeS (ys.take k)).length c2 ∧ Aside0 (MergedAt w5 ys k A2 c2 W)) (fun _ i _ => ys.length - (intOf i).toNat)
    case atStart => exact ⟨0, none, 0, rfl, Nat.zero_le _, rfl, ⟨Kd.R_nil _ _ _ _ _, Below.refl _ _⟩⟩
    case round =>
     obtain ⟨k, A2, c2, rfl, hkl, rfl, HK⟩ := hrel
     rename_i wr _
     by_cases hlt : k < ys.length
     · have hK := HK.out
       unfold MergedAt at hK
       obtain ⟨hKR, hKB⟩ := hK
       have HB := Aside0.mk hKB
       obtain ⟨x, hx⟩ : ∃ x, ys[k]? = some x := ⟨_, List.getElem?_eq_getElem hlt⟩
       obtain ⟨gy, rfl, _, _, hcy⟩ := sp_own HY5.out (by omega)
       obtain ⟨z0, z1⟩ := hcy k x hx
       have y0 := cell_after hKB z0
       have y1 := cell_after hKB z1
       have HSTEP : Aside0 (mergeS (ys.take (k + 1)) = stepM (mergeS (ys.take k)) x) := ⟨by rw [List.take_add_one, hx]; exact mergeS_snoc _ _⟩
       have HLEN := Aside0.mk (mergeS_len ys k)
       obtain ⟨O, hO⟩ : ∃ O, mergeS (ys.take k) = O := ⟨_, rfl⟩
       rw [hO] at hKR HSTEP HLEN ⊢
       obtain ⟨xa, xb⟩ := x
       dsimp only at y0 y1
       clear hKB hcy z0 z1 hx hO HK HM HF
       rcases List.eq_nil_or_concat O with rfl | ⟨p, y, rfl⟩
       · have HO : Aside0 (Kd.R k105 105 wr w5.heap.size (fun _ => True) (.slice A2 0 c2) []) := ⟨hKR⟩
         have HST2 : Aside0 (mergeS (ys.take (k + 1)) = [⟨xa, xb⟩]) := ⟨HSTEP.out⟩
         clear hKR HSTEP
         go_upto_region 15 with (fail)
         obtain ⟨w3, hw3⟩ : ∃ w3, wr.alloc (Obj.cells #[.int .i64 xa, .int .i64 xb] 105) = w3 := ⟨_, rfl⟩
         rw [hw3]
         obtain ⟨g9, hg9⟩ : ∃ g9, wr.heap.size = g9 := ⟨_, rfl⟩
         rw [hg9]
         have h9 : w3.heap[g9]? = some (.cells #[.int .i64 xa, .int .i64 xb] 105 (0, 0)) := by rw [← hw3, ← hg9]; exact blk_new _ _
         have c90 : w3.cell? ⟨g9, 0, none⟩ = some (.int .i64 xa) := (blk_cell h9 0).trans rfl
         have c91 : w3.cell? ⟨g9, 1, none⟩ = some (.int .i64 xb) := (blk_cell h9 1).trans rfl
         have HB3 : Aside0 (Below w5.heap.size w5 w3) := ⟨hw3 ▸ below_alloc HB.out _⟩
         have HO3 := Aside0.mk (show Kd.R k105 105 w3 w5.heap.size (fun _ => True) (.slice A2 0 c2) [] from hw3 ▸ Kd.R_alloc HO.out _)
         clear hw3 hg9 h9 y0 y1 HO HB
         go_quiet (fail)
         go_wp2_with ((with_reducible refine gate_builtin (b := .append) (xs := #[.tmp 78, .tmp 80]) rfl ?_); refine R_append50 rfl (w0 := w3.drewN nq) w5.heap.size rfl (.tmp 78) (.tmp 80) rfl A2 c2 0 [] ⟨xa, xb⟩ rfl rfl rfl (Kd.R_below HO3.out (pw_below_drewN (Below.refl _ _) _)) (Below.refl _ _) HB3.out.size ?hl2 ?_; (case hl2 => decide); intro A7 c7 w7 hR7 hb7 hg7 hn7)
         go_roundw
         case rel => exact ⟨k + 1, A7, c7, by go_num, by omega, by rw [HST2.out]; rfl, ⟨by unfold MergedAt; rw [HST2.out]; exact ⟨hR7, (pw_below_drewN HB3.out _).trans hb7⟩⟩⟩
         case measure => simp [intOf]; omega
       · obtain ⟨m, hm⟩ : ∃ m, p.length = m := ⟨_, rfl⟩
         have hlen : (p.concat y).length = m + 1 := by simp [hm]
         rw [hlen] at hKR HLEN ⊢
         rw [List.concat_eq_append] at hKR HSTEP
         have HO := Aside0.mk hKR
         obtain ⟨g2, rfl, hg2, ⟨cur, hcur⟩, hc2⟩ := sp_own hKR (by simp)
         have hy : (p ++ [y])[m]? = some y := by rw [← hm]; simp
         obtain ⟨_, v1⟩ := hc2 m y hy
         have hst := HSTEP.out
         rw [stepM_snoc] at hst
         obtain ⟨ya, yb⟩ := y
         dsimp only at v1 hst
         have HST := Aside0.mk hst
         have hmb : (m : Int) ≤ 1000000 := by have := HLEN.out; omega
         have hw0 : IntKind.i64.wrap (m : Int) = m := by rw [IntKind.wrap_i64]; omega
         have HM := Aside0.mk hm
         clear hKR HSTEP hc2 hy hst hlen hm
         go_upto_region 15 with (fail)
         obtain ⟨w3, hw3⟩ : ∃ w3, wr.alloc (Obj.cells #[.int .i64 xa, .int .i64 xb] 105) = w3 := ⟨_, rfl⟩
         rw [hw3]
         obtain ⟨g9, hg9⟩ : ∃ g9, wr.heap.size = g9 := ⟨_, rfl⟩
         rw [hg9]
         have h9 : w3.heap[g9]? = some (.cells #[.int .i64 xa, .int .i64 xb] 105 (0, 0)) := by rw [← hw3, ← hg9]; exact blk_new _ _
         have c90 : w3.cell? ⟨g9, 0, none⟩ = some (.int .i64 xa) := (blk_cell h9 0).trans rfl
         have c91 : w3.cell? ⟨g9, 1, none⟩ = some (.int .i64 xb) := (blk_cell h9 1).trans rfl
         have HB3 : Aside0 (Below w5.heap.size w5 w3) := ⟨hw3 ▸ below_alloc HB.out _⟩
         have HO3 := Aside0.mk (show Kd.R k105 105 w3 w5.heap.size (fun _ => True) (.slice (some ⟨g2, 0, none⟩) (m + 1) c2) (p ++ [⟨ya, yb⟩]) from hw3 ▸ Kd.R_alloc HO.out _)
         have v3 : w3.cell? ⟨g2, m * 2 + 1, none⟩ = some (.int .i64 yb) := by rw [← hw3]; exact cell_after (below1 _ _) v1
         have hcur3 : w3.heap[g2]? = some (.cells cur 105 (0, 0)) := by rw [← hw3]; exact ((below1 wr _).block g2 (blk_lt hcur)).trans hcur
         have HC3 := Aside0.mk hcur3
         clear hw3 hg9 h9 y0 y1 HO HB v1 hcur hcur3
         by_cases hxy : xa ≤ yb
         · have HST2 : Aside0 (mergeS (ys.take (k + 1)) = p ++ [⟨ya, max yb xb⟩]) := ⟨by have h := HST.out; rw [if_pos hxy] at h; exact h⟩
           go_quiet (fail)
           go_wp2_with fail
           obtain ⟨w4, hw4⟩ : ∃ w4, w3.drewN nq = w4 := ⟨_, rfl⟩
           rw [hw4]
           have u91 : w4.cell? ⟨g9, 1, none⟩ = some (.int .i64 xb) := by rw [← hw4]; simpa using c91
           have u3 : w4.cell? ⟨g2, m * 2 + 1, none⟩ = some (.int .i64 yb) := by rw [← hw4]; simpa using v3
           have hc4 : w4.heap[g2]? = some (.cells cur 105 (0, 0)) := by rw [← hw4]; exact HC3.out
           have f3 := blk_frozen hc4 (m * 2 + 1)
           have HB4 : Aside0 (Below w5.heap.size w5 w4) := ⟨hw4 ▸ pw_below_drewN HB3.out _⟩
           have HO4 : Aside0 (Kd.R k105 105 w4 w5.heap.size (fun _ => True) (.slice (some ⟨g2, 0, none⟩) (m + 1) c2) (p ++ [⟨ya, yb⟩])) := ⟨hw4 ▸ Kd.R_below HO3.out (pw_below_drewN (Below.refl _ _) _)⟩
           obtain ⟨g2', e2, _, _, hcc⟩ := sp_own HO4.out (by simp)
           injection e2 with e2
           injection e2 with e2
           subst e2
           obtain ⟨t0, t1⟩ := hcc m ⟨ya, yb⟩ (by rw [← HM.out]; simp)
           have t0' : w4.cell? ⟨g2, m * 2, none⟩ = some (.int .i64 ya) := t0
           clear t1 hcc hw4 c90 c91 v3
           have hlt1 : (m : Int) < (m : Int) + 1 := by omega
           have HSEG : Aside0 (Kd.R k105 105 (w4.setCell ⟨g2, m * 2 + 1, none⟩ (.int .i64 (max yb xb))) w5.heap.size (fun _ => True) (.slice (some ⟨g2, 0, none⟩) (m + 1) c2) (p ++ [⟨ya, max yb xb⟩])) := ⟨by
            have h := (Kd.R_seg HO4.out (m : Int) (by omega) (by omega) (c := [.int .i64 ya, .int .i64 yb]) (seg := [.int .i64 (max yb xb)]) (j := 1) rfl (fun j u hu => by
             rw [Int.toNat_natCast]
             match j, hu with
             | 0, hu => injection hu with hu; subst hu; exact t0'
             | 1, hu => injection hu with hu; subst hu; exact u3) (by show 1 + 1 ≤ 2; omega) (x' := ⟨ya, max yb xb⟩) (okp := fun _ => False) (k105_mkM _ _ _ _) (fun _ h => h.elim)).1
            rw [Int.toNat_natCast] at h
            have e : (p ++ [(⟨ya, yb⟩ : Sp)]).set m ⟨ya, max yb xb⟩ = p ++ [⟨ya, max yb xb⟩] := by
             rw [← HM.out, List.set_append_right _ _ (Nat.le_refl _), Nat.sub_self]
             rfl
            rw [e] at h
            exact h⟩
           have HBS : Aside0 (Below w5.heap.size w5 (w4.setCell ⟨g2, m * 2 + 1, none⟩ (.int .i64 (max yb xb)))) := ⟨HB4.out.setCell (p := ⟨g2, m * 2 + 1, none⟩) hg2 _⟩
           clear t0 t0'
           go_still_tail 14, (by kernel_rfl)
           change wpList _ _ _ _ _ w4.drew
           go_wp2
           go_roundw
           case rel => exact ⟨k + 1, some ⟨g2, 0, none⟩, c2, by go_num, by omega, by rw [HST2.out]; simp [HM.out], ⟨by unfold MergedAt; rw [HST2.out, show (p ++ [(⟨ya, max yb xb⟩ : Sp)]).length = m + 1 by simp [HM.out]]; first | exact ⟨HSEG.out, HBS.out⟩ | exact ⟨Kd.R_below HSEG.out (below_drew1 (Below.refl _ _)), below_drew1 HBS.out⟩⟩⟩
           case measure => simp [intOf]; omega
         · have HST2 : Aside0 (mergeS (ys.take (k + 1)) = p ++ [⟨ya, yb⟩] ++ [⟨xa, xb⟩]) := ⟨by have h := HST.out; rw [if_neg hxy] at h; exact h⟩
           go_quiet (fail)
           go_wp2_with ((with_reducible refine gate_builtin (b := .append) (xs := #[.tmp 78, .tmp 80]) rfl ?_); refine R_append50 rfl (w0 := w3.drewN nq) w5.heap.size rfl (.tmp 78) (.tmp 80) rfl (some ⟨g2, 0, none⟩) c2 (m + 1) (p ++ [⟨ya, yb⟩]) ⟨xa, xb⟩ rfl ?hn2 rfl (Kd.R_below HO3.out (pw_below_drewN (Below.refl _ _) _)) (Below.refl _ _) HB3.out.size ?hl3 ?_; (case hn2 => rw [List.length_append, HM.out]; rfl); (case hl3 => rw [List.length_append, HM.out]; show (m + 1 + 1) * 16 ≤ _; omega); intro A7 c7 w7 hR7 hb7 hg7 hn7)
           go_roundw
           case rel => exact ⟨k + 1, A7, c7, by go_num, by omega, by rw [HST2.out]; simp [HM.out], ⟨by unfold MergedAt; rw [HST2.out, show (p ++ [(⟨ya, yb⟩ : Sp)] ++ [(⟨xa, xb⟩ : Sp)]).length = m + 1 + 1 by simp [HM.out]]; exact ⟨hR7, (pw_below_drewN HB3.out _).trans hb7⟩⟩⟩
           case measure => simp [intOf]; omega
     · have e : ys.take k = ys := List.take_of_length_le (by omega)
       have hK := HK.out
       unfold MergedAt at hK
       rw [e] at hK ⊢
       rw [HF.out.1] at hK ⊢
       have HR9 := Aside0.mk hK.1
       have HB9 := Aside0.mk hK.2
       clear e hK HK HF HM
       go_wp2
       go_ret
       exact ⟨_, rfl, Kd.R_lower HR9.out (HB5.out.size), HB5.out.trans (HB9.out.mono HB5.out.size)⟩
end Go.Proofs.YthdfmbmbjpmlaaaDoor.Rn
end
section
namespace Go.Proofs.YthdfmbmbjpmlaaaDoor.Rn
open Go.RowKit Go.Proofs.YthdfmbmbjpmlaaaDoorW.PrintWords Go.Proofs.YthdfmbmbjpmlaaaDoorW.PrintLast Go.Proofs.YthdfmbmbjpmlaaaDoorW.PrintMore
attribute [local go_sem] max2_int min2_int max_two min_two max_three min_three max_four min_four   -- for this text's walks alone
set_option linter.unusedVariables false
set_option linter.unusedSimpArgs false
def runes_Norm.f (k : Nat) (l0 : List (S56)) : Option ((List (S56))) := (runes_spans.f l0).bind fun t286 => ((runes_ranges.f k t286).bind fun t289 => (some t289))
theorem runes_Norm.mono : ∀ a0 k, LeO (runes_Norm.f k a0) (runes_Norm.f (k + 1) a0) := by
 intro a0 k
 unfold runes_Norm.f
 repeat' first
  | (with_reducible exact runes_ranges.mono _ _)
  | (with_reducible exact LeO.refl _)
  | (with_reducible exact LeO.none _)
  | (with_reducible refine LeO.ite ?_ ?_)
  | (with_reducible refine LeO.bind ?_ (fun _ => ?_))
  | exact runes_ranges.mono _ _
  | exact LeO.none _
  | refine LeO.ite ?_ ?_
  | refine LeO.bind ?_ (fun _ => ?_)
set_option maxHeartbeats 8000000 in
set_option maxRecDepth 100000 in
theorem runes_Norm.calls (k : Nat) (A0 : Option Addr) (c0 : Nat) (l0 : List (S56)) (r : List (S56)) (w : World) (hr0 : Kd.C k56 w A0 l0.length l0) (hc0 : l0.length ≤ c0) (h : runes_Norm.f k l0 = some r) :
 Calls Tryd.prog 67 #[.slice A0 l0.length c0] w fun e w' => ∃ v0_ : Value, e = .returned (v0_) ∧ Kd.R k56 56 w' w.heap.size (fun _ => True) v0_ r ∧ Below w.heap.size w w' := by
 have HR0 := Aside0.mk hr0
 have HC0 := Aside0.mk hc0
 clear hr0 hc0
 have HB := Aside0.mk (Below.refl w.heap.size w)
 have H : ((runes_spans.f l0).bind fun t286 => ((runes_ranges.f k t286).bind fun t289 => (some t289))) = some r := h
 clear h
 replace H := Option.bind_eq_some_iff.mp H
 obtain ⟨t286, A20, H⟩ := H
 replace H : ((runes_ranges.f k t286).bind fun t289 => (some t289)) = some r := H
 have A2 := Aside0.mk A20
 clear A20
 replace H := Option.bind_eq_some_iff.mp H
 obtain ⟨t289, A30, H⟩ := H
 replace H : (some t289) = some r := H
 have A3 := Aside0.mk A30
 clear A30
 obtain rfl := Option.some.inj H
 go_enter Tryd.func67, Tryd.ntmps67
 go_wp2_with (first | ((with_reducible refine gate_callee (f := 70) rfl ?_); refine goesL_ (some 4) rfl rfl Tryd.func70 (by kernel_rfl) rfl #[.slice A0 l0.length c0] rfl (by (try simp only [List.map_toArray, List.map_cons, List.map_nil]); first | done | rfl | (simp only [List.length_drop, List.length_take]; rfl)) ?_; (with_reducible refine (runes_spans.calls _ _ l0 t286 _ ?side1 ?side2 A2.out).mono ?_); (case side1 => repeat (first | exact HR0.out | (with_reducible refine Kd.C_alloc ?_ _) | (with_reducible refine Kd.C_drewN ?_ _) | (with_reducible refine Kd.C_drew ?_))); (case side2 => exact HC0.out); rintro e w4 ⟨v287, rfl, ho0, hb⟩; refine ⟨_, rfl, ?_⟩; have n0_ := Aside0.mk (Kd.R_lower ho0 (below_size (by repeat (first | (with_reducible first | exact HB.out | apply below_alloc | apply pw_below_drewN | apply below_drew1) | exact HB.out)))); have n1_ := Aside0.mk (below_step (by repeat (first | (with_reducible first | exact HB.out | apply below_alloc | apply pw_below_drewN | apply below_drew1) | exact HB.out)) hb); clear HB; have HO288 := n0_; have HB := n1_; clear n0_ n1_; (try clear hb); (try clear hb2); (try clear hk); (try clear hi); (try clear ho0); obtain ⟨Ao5, co5, eo5⟩ := Kd.R_slice HO288.out; subst eo5) | ((with_reducible refine gate_callee (f := 69) rfl ?_); refine goesL_ (some 5) rfl rfl Tryd.func69 (by kernel_rfl) rfl #[.slice Ao5 t286.length co5] rfl (by (try simp only [List.map_toArray, List.map_cons, List.map_nil]); first | done | rfl | (simp only [List.length_drop, List.length_take]; rfl)) ?_; (with_reducible refine (runes_ranges.calls k _ _ t286 t289 _ ?side1 ?side2 A3.out).mono ?_); (case side1 => repeat (first | exact (Kd.R_reads' HO288.out).2.2 | (with_reducible refine Kd.C_alloc ?_ _) | (with_reducible refine Kd.C_drewN ?_ _) | (with_reducible refine Kd.C_drew ?_))); (case side2 => exact (Kd.R_reads' HO288.out).2.1); rintro e w6 ⟨v290, rfl, ho0, hb⟩; refine ⟨_, rfl, ?_⟩; have n0_ := Aside0.mk (Kd.R_below (by (with_reducible repeat (first | apply Kd.R_alloc | apply Kd.R_drewN | apply Kd.R_drew)); exact HO288.out) hb); have n1_ := Aside0.mk (Kd.R_lower ho0 (below_size (by repeat (first | (with_reducible first | exact HB.out | apply below_alloc | apply pw_below_drewN | apply below_drew1) | exact HB.out)))); have n2_ := Aside0.mk (below_step (by repeat (first | (with_reducible first | exact HB.out | apply below_alloc | apply pw_below_drewN | apply below_drew1) | exact HB.out)) hb); clear HO288; clear HB; have HO288 := n0_; have HO291 := n1_; have HB := n2_; clear n0_ n1_ n2_; (try clear hb); (try clear hb2); (try clear hk); (try clear hi); (try clear ho0)))
 go_ret
 exact ⟨_, by first | rfl | (simp [errW_none, errW_some] <;> rfl) | (simp [*, errW_none, errW_some] <;> rfl), by (with_reducible repeat (first | apply Kd.R_alloc | apply Kd.R_drewN | apply Kd.R_drew)); exact HO291.out, by repeat (first | (with_reducible first | exact HB.out | apply below_alloc | apply pw_below_drewN | apply below_drew1) | exact HB.out)⟩
def runes_May.f (k : Nat) (l0 : List (S56)) : Option (Bool) := (runes_Norm.f k l0).bind fun t292 => ((api_Range.f k l0 t292).bind fun t295 => (some t295))
theorem runes_May.mono : ∀ a0 k, LeO (runes_May.f k a0) (runes_May.f (k + 1) a0) := by
 intro a0 k
 unfold runes_May.f
 repeat' first
  | (with_reducible exact api_Range.mono _ _ _)
  | (with_reducible exact runes_Norm.mono _ _)
  | (with_reducible exact LeO.refl _)
  | (with_reducible exact LeO.none _)
  | (with_reducible refine LeO.ite ?_ ?_)
  | (with_reducible refine LeO.bind ?_ (fun _ => ?_))
  | exact api_Range.mono _ _ _
  | exact runes_Norm.mono _ _
  | exact LeO.none _
  | refine LeO.ite ?_ ?_
  | refine LeO.bind ?_ (fun _ => ?_)
set_option maxHeartbeats 8000000 in
set_option maxRecDepth 100000 in
theorem runes_May.calls (k : Nat) (A0 : Option Addr) (c0 : Nat) (l0 : List (S56)) (r : Bool) (w : World) (hr0 : Kd.C k56 w A0 l0.length l0) (hc0 : l0.length ≤ c0) (h : runes_May.f k l0 = some r) :
 Calls Tryd.prog 62 #[.slice A0 l0.length c0] w fun e w' => e = .returned (.bool r) ∧ Below w.heap.size w w' := by
 have HR0 := Aside0.mk hr0
 have HC0 := Aside0.mk hc0
 clear hr0 hc0
 have HB := Aside0.mk (Below.refl w.heap.size w)
 have H : ((runes_Norm.f k l0).bind fun t292 => ((api_Range.f k l0 t292).bind fun t295 => (some t295))) = some r := h
 clear h
 replace H := Option.bind_eq_some_iff.mp H
 obtain ⟨t292, A20, H⟩ := H
 replace H : ((api_Range.f k l0 t292).bind fun t295 => (some t295)) = some r := H
 have A2 := Aside0.mk A20
 clear A20
 replace H := Option.bind_eq_some_iff.mp H
 obtain ⟨t295, A30, H⟩ := H
 replace H : (some t295) = some r := H
 have A3 := Aside0.mk A30
 clear A30
 obtain rfl := Option.some.inj H
 go_enter Tryd.func62, Tryd.ntmps62
 go_wp2_with (first | ((with_reducible refine gate_callee (f := 67) rfl ?_); refine goesL_ (some 5) rfl rfl Tryd.func67 (by kernel_rfl) rfl #[.slice A0 l0.length c0] rfl (by (try simp only [List.map_toArray, List.map_cons, List.map_nil]); first | done | rfl | (simp only [List.length_drop, List.length_take]; rfl)) ?_; (with_reducible refine (runes_Norm.calls k _ _ l0 t292 _ ?side1 ?side2 A2.out).mono ?_); (case side1 => repeat (first | exact HR0.out | (with_reducible refine Kd.C_alloc ?_ _) | (with_reducible refine Kd.C_drewN ?_ _) | (with_reducible refine Kd.C_drew ?_))); (case side2 => exact HC0.out); rintro e w4 ⟨v293, rfl, ho0, hb⟩; refine ⟨_, rfl, ?_⟩; have n0_ := Aside0.mk (Kd.R_lower ho0 (below_size (by repeat (first | (with_reducible first | exact HB.out | apply below_alloc | apply pw_below_drewN | apply below_drew1) | exact HB.out)))); have n1_ := Aside0.mk (below_step (by repeat (first | (with_reducible first | exact HB.out | apply below_alloc | apply pw_below_drewN | apply below_drew1) | exact HB.out)) hb); clear HB; have HO294 := n0_; have HB := n1_; clear n0_ n1_; (try clear hb); (try clear hb2); (try clear hk); (try clear hi); (try clear ho0); obtain ⟨Ao5, co5, eo5⟩ := Kd.R_slice HO294.out; subst eo5) | ((with_reducible refine gate_callee (f := 48) rfl ?_); refine goesL_ (some 6) rfl rfl Tryd.func48 (by kernel_rfl) rfl #[.slice A0 l0.length c0, .slice Ao5 t292.length co5] rfl (by (try simp only [List.map_toArray, List.map_cons, List.map_nil]); first | done | rfl | (simp only [List.length_drop, List.length_take]; rfl)) ?_; (with_reducible refine (api_Range.calls k _ _ l0 _ _ t292 t295 _ ?side1 ?side2 ?side3 ?side4 A3.out).mono ?_); (case side1 => repeat (first | exact (Kd.C_below HR0.out HB.out) | (with_reducible refine Kd.C_alloc ?_ _) | (with_reducible refine Kd.C_drewN ?_ _) | (with_reducible refine Kd.C_drew ?_))); (case side2 => exact HC0.out); (case side3 => repeat (first | exact (Kd.R_reads' HO294.out).2.2 | (with_reducible refine Kd.C_alloc ?_ _) | (with_reducible refine Kd.C_drewN ?_ _) | (with_reducible refine Kd.C_drew ?_))); (case side4 => exact (Kd.R_reads' HO294.out).2.1); rintro e w' ⟨rfl, ⟨nd, rfl⟩⟩; refine ⟨_, rfl, ?_⟩))
 go_ret
 exact ⟨by first | rfl | (simp [errW_none, errW_some] <;> rfl) | (simp [*, errW_none, errW_some] <;> rfl), by repeat (first | (with_reducible first | exact HB.out | apply below_alloc | apply pw_below_drewN | apply below_drew1) | exact HB.out)⟩
end Go.Proofs.YthdfmbmbjpmlaaaDoor.Rn
end
section
set_option linter.unusedVariables false
set_option linter.unusedSimpArgs false
namespace Go.Proofs.YthdfmbmbjpmlaaaDoor.Rn
open Go Go.RowKit Go.Proofs.YthdfmbmbjpmlaaaDoorW.PrintWords Go.Proofs.YthdfmbmbjpmlaaaDoorW.PrintLast Go.Proofs.YthdfmbmbjpmlaaaDoorW.PrintMore
def valS (n : Int) : Int := (runes_value.f n).getD 0
theorem val_f (n : Int) : runes_value.f n = some (valS n) := by
 unfold valS runes_value.f
 by_cases h : n < 55296
 · simp only [if_pos h, Option.getD_some]
 · simp only [if_neg h, Option.getD_some]
def rgS (x : Sp) : Rg := ⟨valS x.f0, valS (wrap64 (x.f1 - 1))⟩
theorem ranges_l (L : List Sp) (hL : L.length ≤ 2000000) (d : Nat) : ∀ (k i : Nat), i ≤ L.length → L.length - i = d → d < k → runes_ranges.l0 k ((L.take i).map rgS) L (L.length : Int) (i : Int) = some (L.map rgS) := by
 induction d with
 | zero =>
  intro k i h1 h2 hk
  obtain ⟨k, rfl⟩ : ∃ m, k = m + 1 := ⟨k - 1, by omega⟩
  simp only [runes_ranges.l0]
  rw [if_neg (by omega), List.take_of_length_le (by omega)]
 | succ d ih =>
  intro k i h1 h2 hk
  obtain ⟨k, rfl⟩ : ∃ m, k = m + 1 := ⟨k - 1, by omega⟩
  have hi : i < L.length := by omega
  simp only [runes_ranges.l0]
  rw [if_pos (by omega), if_pos (by omega), if_pos (by omega), val_f]
  simp only [Option.bind_some]
  rw [val_f]
  simp only [Option.bind_some]
  rw [if_pos (by rw [List.length_map, List.length_take]; omega)]
  have e1 : rd_T105 L (i : Int) = L[i] := by
   unfold rd_T105
   rw [Int.toNat_natCast, List.getD_eq_getElem?_getD, List.getElem?_eq_getElem hi]
   rfl
  have e2 : wrap64 ((i : Int) + 1) = ((i + 1 : Nat) : Int) := by unfold wrap64; omega
  rw [e1, e2]
  have e3 : (L.take i).map rgS ++ [(⟨valS L[i].f0, valS (wrap64 (L[i].f1 - 1))⟩ : Rg)] = (L.take (i + 1)).map rgS := by
   rw [List.take_succ_eq_append_getElem hi, List.map_append]
   rfl
  rw [e3]
  exact ih k (i + 1) (by omega) (by omega) (by omega)
theorem spansS_len (l : List Rg) : (spansS l).length ≤ l.length := by
 unfold spansS nfS
 have h := mergeS_len (sortS (rawS l)) (sortS (rawS l)).length
 rw [List.take_length] at h
 have h2 : ∀ m : List Sp, (sortS m).length = m.length := fun m => by
  induction m with
  | nil => rfl
  | cons x m ih =>
   have h3 : ∀ (y : Sp) (q : List Sp), (insS y q).length = q.length + 1 := fun y q => by
    induction q with
    | nil => rfl
    | cons z q ih2 =>
     unfold insS
     split
     · rfl
     · simp [ih2]
   rw [sortS, h3, ih, List.length_cons]
 rw [h2] at h
 have := rawS_len l
 omega
def normS (l : List Rg) : List Rg := (spansS l).map rgS
theorem norm_f (l : List Rg) (h : okR l = true) : runes_Norm.f (l.length + 1) l = some (normS l) := by
 have h1 : runes_spans.f l = some (spansS l) := by unfold runes_spans.f; rw [if_pos h]
 have hl : (spansS l).length ≤ l.length := spansS_len l
 have hl2 : l.length ≤ 1000000 := by
  unfold okR at h
  simp only [Bool.and_eq_true, decide_eq_true_eq] at h
  exact h.1
 have h2 : runes_ranges.f (l.length + 1) (spansS l) = some ((spansS l).map rgS) := ranges_l (spansS l) (by omega) (spansS l).length (l.length + 1) 0 (by omega) (by omega) (by omega)
 unfold runes_Norm.f
 rw [h1, Option.bind_some, h2]
 rfl
end Go.Proofs.YthdfmbmbjpmlaaaDoor.Rn
end
section
set_option linter.unusedVariables false
set_option linter.unusedSimpArgs false
namespace Go.Proofs.YthdfmbmbjpmlaaaDoor.Rn
open Go Go.RowKit Go.Proofs.YthdfmbmbjpmlaaaDoorW.PrintWords Go.Proofs.YthdfmbmbjpmlaaaDoorW.PrintLast Go.Proofs.YthdfmbmbjpmlaaaDoorW.PrintMore
theorem rg_ext {x y : Rg} (h0 : x.f0 = y.f0) (h1 : x.f1 = y.f1) : x = y := by
 cases x
 cases y
 simp_all
def eqS : List Rg → List Rg → Bool
 | [], [] => true
 | x :: l, y :: m => (x.f0 == y.f0) && (x.f1 == y.f1) && eqS l m
 | _, _ => false
theorem eqS_iff : ∀ l m : List Rg, eqS l m = true ↔ l = m
 | [], [] => by simp [eqS]
 | [], _ :: _ => by simp [eqS]
 | _ :: _, [] => by simp [eqS]
 | x :: l, y :: m => by
  simp only [eqS, Bool.and_eq_true, beq_iff_eq, eqS_iff l m, List.cons.injEq]
  constructor
  · rintro ⟨⟨h0, h1⟩, h2⟩
    exact ⟨rg_ext h0 h1, h2⟩
  · rintro ⟨rfl, h2⟩
    exact ⟨⟨rfl, rfl⟩, h2⟩
theorem rd_rg (l : List Rg) (i : Nat) (hi : i < l.length) : rd_T56 l (i : Int) = l[i] := by
 unfold rd_T56
 rw [Int.toNat_natCast, List.getD_eq_getElem?_getD, List.getElem?_eq_getElem hi]
 rfl
theorem same_l (l m : List Rg) (hlm : l.length = m.length) (hl : l.length ≤ 1000000) (d : Nat) : ∀ (k i : Nat), i ≤ l.length → l.length - i = d → d < k → api_Range.l0 k l m (l.length : Int) (i : Int) = some (eqS (l.drop i) (m.drop i)) := by
 induction d with
 | zero =>
  intro k i h1 h2 hk
  obtain ⟨k, rfl⟩ : ∃ m, k = m + 1 := ⟨k - 1, by omega⟩
  simp only [api_Range.l0]
  rw [if_neg (by omega), List.drop_of_length_le (by omega), List.drop_of_length_le (by omega)]
  rfl
 | succ d ih =>
  intro k i h1 h2 hk
  obtain ⟨k, rfl⟩ : ∃ m, k = m + 1 := ⟨k - 1, by omega⟩
  have hi : i < l.length := by omega
  have hj : i < m.length := by omega
  simp only [api_Range.l0]
  have e2 : wrap64 ((i : Int) + 1) = ((i + 1 : Nat) : Int) := by unfold wrap64; omega
  have hi2 := ih k (i + 1) (by omega) (by omega) (by omega)
  rw [if_pos (by omega), if_pos (by omega), if_pos (by omega), if_pos (by omega), rd_rg l i hi, rd_rg m i hj, List.drop_eq_getElem_cons hi, List.drop_eq_getElem_cons hj, e2, hi2]
  obtain ⟨x, hx⟩ : ∃ x, l[i] = x := ⟨_, rfl⟩
  obtain ⟨y, hy⟩ : ∃ y, m[i] = y := ⟨_, rfl⟩
  rw [hx, hy]
  clear hx hy hi2 ih e2 h1 h2 hk hi hj
  simp only [eqS]
  by_cases h0 : x.f0 = y.f0
  · by_cases h3 : x.f1 = y.f1
    · rw [if_neg (by simp [h0, h3])]
      simp [h0, h3]
    · rw [if_pos (by simp [h0, h3])]
      simp [h0, h3]
  · rw [if_pos (by simp [h0])]
    simp [h0]
theorem eqS_len : ∀ l m : List Rg, l.length ≠ m.length → eqS l m = false := fun l m h => by
 cases e : eqS l m
 · rfl
 · exact absurd (congrArg List.length ((eqS_iff l m).1 e)) h
theorem equal_f (l m : List Rg) (hl : l.length ≤ 1000000) (k : Nat) (hk : l.length < k) : api_Range.f k l m = some (eqS l m) := by
 unfold api_Range.f
 by_cases h : l.length = m.length
 · rw [if_pos (by omega)]
   exact same_l l m h hl l.length k 0 (by omega) (by omega) hk
 · rw [if_neg (by omega), eqS_len l m h]
theorem okR_len {l : List Rg} (h : okR l = true) : l.length ≤ 1000000 := by
 unfold okR at h
 simp only [Bool.and_eq_true, decide_eq_true_eq] at h
 exact h.1
theorem norm_fk (l : List Rg) (h : okR l = true) (k : Nat) (hk : l.length < k) : runes_Norm.f k l = some (normS l) := at_rounds (fun k => runes_Norm.mono l k) (Nat.succ_le_of_lt hk) (norm_f l h)
theorem may_f (l : List Rg) (h : okR l = true) (k : Nat) (hk : l.length < k) : runes_May.f k l = some (eqS l (normS l)) := by
 unfold runes_May.f
 rw [norm_fk l h k hk, Option.bind_some, equal_f l _ (okR_len h) k hk]
 rfl
end Go.Proofs.YthdfmbmbjpmlaaaDoor.Rn
end
section
set_option linter.unusedVariables false
set_option linter.unusedSimpArgs false
namespace Go.Proofs.YthdfmbmbjpmlaaaDoor.Rn
open Go Go.RowKit Go.Proofs.YthdfmbmbjpmlaaaDoorW.PrintWords Go.Proofs.YthdfmbmbjpmlaaaDoorW.PrintLast Go.Proofs.YthdfmbmbjpmlaaaDoorW.PrintMore
set_option maxHeartbeats 1000000 in
set_option maxRecDepth 100000 in
theorem may_index (xs : List S48) (A : Option Addr) (c : Nat)  (I J : Nat → World → Prop) (w0 w : World) (hC : k48.C w0 A xs.length xs) (hB : ∀ i W, I i W → Below w0.heap.size w0 W)
 (hstep : ∀ i x cs W, xs[i]? = some x → I i W → k48.K w0 x cs → Calls Tryd.prog 61 #[.agg cs.toArray] W (CbPost (J i) (I (i + 1)))) (h0 : I 0 w) :
 Calls Tryd.prog 66 #[.slice A xs.length c, .func (.func 61) #[] #[]] w (IdxPost xs.length I J) := by
 have hl : xs.length ≤ 9223372036854775807 := hC.2.1
 have HC := Aside0.mk hC
 have HB := Aside0.mk hB
 have HS := Aside0.mk hstep
 have H0 := Aside0.mk h0
 clear hC hB hstep h0
 go_enter Tryd.func66, Tryd.ntmps66
 go_wp2
 go_loopw [8] (fun i W => ∃ k : Nat, i = .int .i64 k ∧ k ≤ xs.length ∧ Aside0 (I k W)) (fun i _ => xs.length - (intOf i).toNat)
 case atStart => exact ⟨0, rfl, Nat.zero_le _, H0⟩
 case round =>
  obtain ⟨k, rfl, hkl, HI⟩ := hrel
  by_cases hlt : k < xs.length
  · obtain ⟨g, o, rfl, _, hcell⟩ := row_cells HC.out (by omega) (by decide)
    obtain ⟨x, hx⟩ : ∃ x, xs[k]? = some x := ⟨_, List.getElem?_eq_getElem hlt⟩
    obtain ⟨cs, hcl, hK, hcc⟩ := hcell k x hx
    have HK := Aside0.mk hK
    obtain ⟨A1, c1, A2, c2, rfl, l1, g1, l2, g2⟩ := k48_open hK
    have y0 := cell_after (HB.out k _ HI.out) (hcc 0 (.int .i64 x.f0) rfl)
    rw [Nat.add_zero] at y0
    have y1 := cell_after (HB.out k _ HI.out) (hcc 1 (.slice A1 x.f1.length c1) rfl)
    have y2 := cell_after (HB.out k _ HI.out) (hcc 2 (.slice A2 x.f2.length c2) rfl)
    simp only [show k48.sz = 3 from rfl] at y0 y1 y2
    have HX := Aside0.mk hx
    clear hcell hcc hx hK hcl
    go_wp2_with fail
    refine (HS.out k x _ _ HX.out HI.out HK.out).mono ?_
    rintro e w2 hp
    rcases hp with ⟨rfl, hj⟩ | ⟨rfl, hi⟩
    · have HJ := Aside0.mk hj
      clear hj
      go_wp2
      go_ret
      exact Or.inl ⟨k, hlt, rfl, HJ.out⟩
    · have HI2 := Aside0.mk hi
      clear hi
      go_wp2
      go_roundw
      case rel => exact ⟨k + 1, by go_num, by omega, HI2⟩
      case measure => simp [intOf]; omega
  · obtain ⟨n, hn⟩ : ∃ n, xs.length = n := ⟨_, rfl⟩
    have e : k = xs.length := by omega
    have HI2 : Aside0 (I xs.length _) := ⟨e ▸ HI.out⟩
    clear e hn n
    go_wp2
    go_ret
    exact Or.inr ⟨rfl, HI2.out⟩
set_option maxHeartbeats 1000000 in
theorem may_contains (xs : List S48) (A : Option Addr) (c : Nat)  (I J : Nat → World → Prop) (w0 w : World) (hC : k48.C w0 A xs.length xs) (hB : ∀ i W, I i W → Below w0.heap.size w0 W)
 (hstep : ∀ i x cs W, xs[i]? = some x → I i W → k48.K w0 x cs → Calls Tryd.prog 61 #[.agg cs.toArray] W (CbPost (J i) (I (i + 1)))) (h0 : I 0 w) :
 Calls Tryd.prog 58 #[.slice A xs.length c, .func (.func 61) #[] #[]] w (ConPost xs.length I J) := by
 have hl : xs.length ≤ 9223372036854775807 := hC.2.1
 have HC := Aside0.mk hC
 have HB := Aside0.mk hB
 have HS := Aside0.mk hstep
 have H0 := Aside0.mk h0
 clear hC hB hstep h0
 go_enter Tryd.func58, Tryd.ntmps58
 go_wp2_with fail
 refine (may_index xs A c  I J w0 _ HC.out HB.out HS.out H0.out).mono ?_
 rintro e w2 hp
 rcases hp with ⟨i, hi, rfl, hj⟩ | ⟨rfl, hi⟩
 · have HJ := Aside0.mk hj
   have h0 : (0 : Int) ≤ (i : Int) := by omega
   clear hj
   go_wp2
   go_ret
   exact Or.inl ⟨rfl, i, hi, HJ.out⟩
 · have HI := Aside0.mk hi
   clear hi
   go_wp2
   go_ret
   exact Or.inr ⟨rfl, HI.out⟩
def partsS (a : Int) : Int := if a = 0 ∨ a = 1 ∨ a = 2 then 0 else if a = 3 ∨ a = 4 then 2 else if a = 5 then 1 else -1
theorem parts_f (a : Int) : regex_parts.f 5 a = some (partsS a) := by
 unfold regex_parts.f partsS
 by_cases h0 : a = 0
 · subst h0; rfl
 by_cases h1 : a = 1
 · subst h1; rfl
 by_cases h2 : a = 2
 · subst h2; rfl
 by_cases h3 : a = 3
 · subst h3; rfl
 by_cases h4 : a = 4
 · subst h4; rfl
 by_cases h5 : a = 5
 · subst h5; rfl
 simp [h0, h1, h2, h3, h4, h5, regex_parts.j0, regex_parts.j1]
def rgOk (l : List Rg) : Bool := l.all (fun x => decide (-2147483648 ≤ x.f0) && decide (x.f0 < 2147483648) && decide (-2147483648 ≤ x.f1) && decide (x.f1 < 2147483648))
theorem okR_of {l : List Rg} (h : rgOk l = true) (hl : l.length ≤ 1000000) : okR l = true := by
 unfold okR
 rw [decide_eq_true hl, Bool.true_and]
 exact h
def ownS (k : Int) (s : List Rg) : Bool := if k = 2 then decide (1 ≤ (s.length : Int)) && decide ((s.length : Int) ≤ 20) && eqS s (normS s) else ((s.length : Int) == 0)
mutual
/-- runes are runes -/
def okT : Re → Bool
 | ⟨_, s, l⟩ => rgOk s && okL l
def okL : List Re → Bool
 | [] => true
 | x :: l => okT x && okL l
end
mutual
/-- each node is as1 its kind is -/
def mayR : Re → Bool
 | ⟨k, s, l⟩ => decide ((l.length : Int) = partsS k) && mayL l && ownS k s
def mayL : List Re → Bool
 | [] => true
 | x :: l => mayR x && mayL l
end
theorem okL_mem : ∀ {l : List Re}, okL l = true → ∀ x, x ∈ l → okT x = true
 | y :: l, h, x, hx => by
  simp only [okL, Bool.and_eq_true] at h
  rcases List.mem_cons.1 hx with rfl | hx
  · exact h.1
  · exact okL_mem h.2 x hx
theorem mayL_append (b : List Re) : ∀ a : List Re, mayL (a ++ b) = (mayL a && mayL b)
 | [] => by simp only [List.nil_append, mayL, Bool.true_and]
 | x :: a => by simp only [List.cons_append, mayL, mayL_append b a, Bool.and_assoc]
theorem mayL_snoc {l : List Re} {k : Nat} {x : Re} (hx : l[k]? = some x) (h : mayL (l.take k) = true) : mayL (l.take (k + 1)) = mayR x := by
 rw [List.take_add_one, hx, mayL_append, h]
 simp only [Option.toList_some, mayL, Bool.true_and, Bool.and_true]
theorem mayL_front {l : List Re} {k : Nat} (h : mayL (l.take k) = false) : mayL l = false := by
 have e := mayL_append (l.drop k) (l.take k)
 rw [List.take_append_drop, h, Bool.false_and] at e
 exact e
def MayC (x : Re) : Prop := ∀ (w0 W : World) (cs : List Value), Below w0.heap.size w0 W → kRe.K w0 x cs → Calls Tryd.prog 53 #[.agg cs.toArray] W fun e W' => e = .returned (.bool (mayR x)) ∧ Below W.heap.size W W'
set_option maxHeartbeats 1000000 in
theorem may_part {x : Re} (hx : MayC x) (w0 W : World) (cs : List Value) (hB : Below w0.heap.size w0 W) (hK : kRe.K w0 x cs) :
 Calls Tryd.prog 61 #[.agg cs.toArray] W fun e W' => e = .returned (.bool (!mayR x)) ∧ Below W.heap.size W W' := by
 have HX := Aside0.mk hx
 have HK := Aside0.mk hK
 obtain ⟨A1, c1, A2, c2, rfl, _, _, _, _⟩ := k48_open hK
 have HB : Aside0 (∀ o, Below w0.heap.size w0 (W.alloc o)) := ⟨fun o => below_alloc hB o⟩
 clear hK hx hB
 go_enter Tryd.func61, Tryd.ntmps61
 go_wp2_with fail
 refine (HX.out w0 _ _ (HB.out _) HK.out).mono ?_
 rintro e w2 ⟨rfl, hb⟩
 have HB2 := Aside0.mk (join_below (below1 W _) hb)
 clear hb
 go_wp2
 go_ret
 exact ⟨rfl, HB2.out⟩
theorem may_parts (x : Re) (hx : ∀ y, y ∈ x.f2 → MayC y) (w0 Wb : World) (A : Option Addr) (c : Nat) (hC : kRe.C w0 A x.f2.length x.f2) (hB : Below w0.heap.size w0 Wb) :
 Calls Tryd.prog 58 #[.slice A x.f2.length c, .func (.func 61) #[] #[]] Wb fun e W' => e = .returned (.bool (!mayL x.f2)) ∧ Below Wb.heap.size Wb W' := by
 have hj : ∀ W, Below Wb.heap.size Wb W → Below w0.heap.size w0 W := fun W h => hB.trans (h.mono hB.size)
 refine (may_contains x.f2 A c (fun i W => Below Wb.heap.size Wb W ∧ mayL (x.f2.take i) = true) (fun _ W => Below Wb.heap.size Wb W ∧ mayL x.f2 = false) w0 Wb hC (fun i W h => hj W h.1) (fun i y cs W hy hI hK => ?_) ⟨Below.refl _ _, rfl⟩).mono ?_
 · have hs := mayL_snoc hy hI.2
   refine (may_part (hx y (List.mem_of_getElem? hy)) w0 W cs (hj W hI.1) hK).mono ?_
   rintro e W2 ⟨rfl, hb2⟩
   have hb3 := join_below hI.1 hb2
   cases hb : mayR y
   · exact Or.inl ⟨rfl, hb3, mayL_front (hs.trans hb)⟩
   · exact Or.inr ⟨rfl, hb3, hs.trans hb⟩
 · rintro e W2 hp
   rcases hp with ⟨rfl, _, _, hb, hm⟩ | ⟨rfl, hb, hm⟩
   · exact ⟨by rw [hm]; rfl, hb⟩
   · rw [List.take_length] at hm
     exact ⟨by rw [hm]; rfl, hb⟩
set_option maxHeartbeats 2000000 in
set_option maxRecDepth 100000 in
theorem may_go (x : Re) (hx : ∀ y, y ∈ x.f2 → MayC y) (hok : rgOk x.f1 = true) : MayC x := by
 intro w0 W cs hB hK
 obtain ⟨A1, p1, A2, p2, rfl, hp1, hC1, _, hC2⟩ := k48_open hK
 have e1 : mayR x = (decide ((x.f2.length : Int) = partsS x.f0) && mayL x.f2 && ownS x.f0 x.f1) := by
  cases x
  rfl
 obtain ⟨w1, hw1⟩ : ∃ w1, W.alloc (.cells #[.int .i64 x.f0, .slice A1 x.f1.length p1, .slice A2 x.f2.length p2] 48) = w1 := ⟨_, rfl⟩
 have hnew : w1.heap[W.heap.size]? = some (.cells #[.int .i64 x.f0, .slice A1 x.f1.length p1, .slice A2 x.f2.length p2] 48 (0, 0)) := by rw [← hw1]; exact blk_new _ _
 have hB1 : Below W.heap.size W w1 := hw1 ▸ below1 W _
 have hB01 : Below w0.heap.size w0 w1 := hB.trans (hB1.mono hB.size)
 have q0 : ∀ p : Later w1, p.wx.cell? ⟨W.heap.size, 0, none⟩ = some (.int .i64 x.f0) := fun p => cell_after p.below ((blk_cell hnew 0).trans rfl)
 have q1 : ∀ p : Later w1, p.wx.cell? ⟨W.heap.size, 1, none⟩ = some (.slice A1 x.f1.length p1) := fun p => cell_after p.below ((blk_cell hnew 1).trans rfl)
 have q2 : ∀ p : Later w1, p.wx.cell? ⟨W.heap.size, 2, none⟩ = some (.slice A2 x.f2.length p2) := fun p => cell_after p.below ((blk_cell hnew 2).trans rfl)
 have HC1 : Aside0 (∀ W', Below w1.heap.size w1 W' → Kd.C k56 W' A1 x.f1.length x.f1) := ⟨fun W' hb => Kd.C_below (Kd.C_below hC1 hB01) hb⟩
 have HC2 := Aside0.mk hC2
 have HX := Aside0.mk hx
 have HB1 := Aside0.mk hB1
 have HB01 := Aside0.mk hB01
 have HP1 := Aside0.mk hp1
 have HLAT : Aside0 (Below w1.heap.size w1 w1.drew) := ⟨below_drew1 (Below.refl _ _)⟩
 have HE := Aside0.mk e1
 have HN := Aside0.mk hnew
 clear hK hx hB hC1 hC2 hB1 hB01 hp1 e1 hnew
 obtain ⟨b, hb⟩ : ∃ b, mayR x = b := ⟨_, rfl⟩
 rw [hb]
 have HQ := Aside0.mk hb
 clear hb
 have ret : ∀ v w', mayR x = v → Below W.heap.size W w' → (Ending.returned (.bool v) = Ending.returned (.bool b) ∧ Below W.heap.size W w') := fun v w' h1 h2 => ⟨by rw [← HQ.out, h1], h2⟩
 have RET := Aside0.mk ret
 clear ret
 by_cases c : (x.f2.length : Int) = partsS x.f0
 · have hne : ((x.f2.length : Int) != partsS x.f0) = false := bne_eq_false_iff_eq.2 c
   have HE2 : Aside0 (mayR x = (mayL x.f2 && ownS x.f0 x.f1)) := ⟨by rw [HE.out, decide_eq_true c, Bool.true_and]⟩
   clear c HE
   go_enter Tryd.func53, Tryd.ntmps53
   go_wp2
   clear hw1
   have hund : undef = Value.tuple #[] := rfl
   refine wp_region_held (S := fun w' => ∃ p : Later w1, w' = p.wx) (by kernel_rfl) ?_
   change wpAnyH _ _ _ _ _ _ _ _ (World.drew _)
   ((refine takeQ (i := 0) (by rfl) (by kernel_rfl) (by kernel_rfl) (by kernel_rfl) ?_ ?_ ?_); (focus first | exact fun _ _ _ _ h => h | exact fun _ _ _ _ h => HPQ.out _ _ _ _ (by rfl) h); (focus exact ⟨⟨_, HLAT.out⟩, rfl⟩); intro K hK; go_simp; (with_reducible refine hK _ ?_); clear hK K)
   ((refine takeQ (i := 1) (by rfl) (by kernel_rfl) (by kernel_rfl) (by kernel_rfl) ?_ ?_ ?_); (focus first | exact fun _ _ _ _ h => h | exact fun _ _ _ _ h => HPQ.out _ _ _ _ (by rfl) h); (focus exact ⟨⟨_, HLAT.out⟩, rfl⟩); intro K hK; go_simp; (with_reducible refine hK _ ?_); clear hK K)
   ((refine takeQ (i := 2) (by rfl) (by kernel_rfl) (by kernel_rfl) (by kernel_rfl) ?_ ?_ ?_); (focus first | exact fun _ _ _ _ h => h | exact fun _ _ _ _ h => HPQ.out _ _ _ _ (by rfl) h); (focus exact ⟨⟨_, HLAT.out⟩, rfl⟩); intro K hK; go_simp; (with_reducible refine hK _ ?_); clear hK K)
   ((refine takeQ (i := 3) (by rfl) (by kernel_rfl) (by kernel_rfl) (by kernel_rfl) ?_ ?_ ?_); (focus first | exact fun _ _ _ _ h => h | exact fun _ _ _ _ h => HPQ.out _ _ _ _ (by rfl) h); (focus exact ⟨⟨_, HLAT.out⟩, rfl⟩); intro K hK; go_simp; (with_reducible refine hK _ ?_); clear hK K)
   ((refine takeQ (i := 4) (by rfl) (by kernel_rfl) (by kernel_rfl) (by kernel_rfl) ?_ ?_ ?_); (focus first | exact fun _ _ _ _ h => h | exact fun _ _ _ _ h => HPQ.out _ _ _ _ (by rfl) h); (focus exact ⟨⟨_, HLAT.out⟩, rfl⟩); intro K hK; go_simp; (with_reducible refine hK _ ?_); clear hK K)
   refine hall1 (i := 5) (by kernel_rfl) (by rfl) (fun K hK => ?_)
   go_simp
   refine (regex_parts.calls 5 x.f0 (partsS x.f0) _ (parts_f _)).mono ?_
   rintro e u1 ⟨rfl, hd⟩
   have HU1 : Aside0 (Below w1.heap.size w1 u1) := ⟨join_below HLAT.out hd.below⟩
   clear hd
   refine hK _ _ ⟨⟨_, HU1.out⟩, rfl⟩ ?_
   clear hK K
   ((refine takeQ (i := 6) (by rfl) (by kernel_rfl) (by kernel_rfl) (by kernel_rfl) ?_ ?_ ?_); (focus first | exact fun _ _ _ _ h => h | exact fun _ _ _ _ h => HPQ.out _ _ _ _ (by rfl) h); (focus exact ⟨⟨_, HU1.out⟩, rfl⟩); intro K hK; go_simp; (with_reducible refine hK _ ?_); clear hK K)
   ((refine takeQ (i := 7) (by rfl) (by kernel_rfl) (by kernel_rfl) (by kernel_rfl) ?_ ?_ ?_); (focus first | exact fun _ _ _ _ h => h | exact fun _ _ _ _ h => HPQ.out _ _ _ _ (by rfl) h); (focus exact ⟨⟨_, HU1.out⟩, rfl⟩); intro K hK; go_simp; (with_reducible refine hK _ ?_); clear hK K)
   ((refine takeQ (i := 8) (by rfl) (by kernel_rfl) (by kernel_rfl) (by kernel_rfl) ?_ ?_ ?_); (focus first | exact fun _ _ _ _ h => h | exact fun _ _ _ _ h => HPQ.out _ _ _ _ (by rfl) h); (focus exact ⟨⟨_, HU1.out⟩, rfl⟩); intro K hK; go_simp; (with_reducible refine hK _ ?_); clear hK K)
   ((refine takeQ (i := 9) (by rfl) (by kernel_rfl) (by kernel_rfl) (by kernel_rfl) ?_ ?_ ?_); (focus first | exact fun _ _ _ _ h => h | exact fun _ _ _ _ h => HPQ.out _ _ _ _ (by rfl) h); (focus exact ⟨⟨_, HU1.out⟩, rfl⟩); intro K hK; go_simp; (with_reducible refine hK _ ?_); clear hK K)
   refine hall1 (i := 10) (by kernel_rfl) (by rfl) (fun K hK => ?_)
   go_simp
   refine (may_parts x HX.out w0 _ A2 p2 HC2.out (HB01.out.trans (HU1.out.mono HB01.out.size))).mono ?_
   rintro e u2 ⟨rfl, hd⟩
   have HU2 : Aside0 (Below w1.heap.size w1 u2) := ⟨join_below HU1.out hd⟩
   clear hd HU1
   refine hK _ _ ⟨⟨_, HU2.out⟩, rfl⟩ ?_
   clear hK K
   have z0 : u2.cell? ⟨W.heap.size, 0, none⟩ = some (.int .i64 x.f0) := q0 ⟨u2, HU2.out⟩
   have z1 : u2.cell? ⟨W.heap.size, 1, none⟩ = some (.slice A1 x.f1.length p1) := q1 ⟨u2, HU2.out⟩
   have HB2 : Aside0 (Below W.heap.size W u2) := ⟨join_below HB1.out HU2.out⟩
   have HC1' := Aside0.mk (HC1.out u2 HU2.out)
   cases hm : mayL x.f2
   · have HR : Aside0 (mayR x = false) := ⟨by rw [HE2.out, hm]; rfl⟩
     clear hm
     ((refine takeQ (i := 11) (by rfl) (by kernel_rfl) (by kernel_rfl) (by kernel_rfl) ?_ ?_ ?_); (focus first | exact fun _ _ _ _ h => h | exact fun _ _ _ _ h => HPQ.out _ _ _ _ (by rfl) h); (focus exact ⟨⟨_, HU2.out⟩, rfl⟩); intro K hK; go_simp; (with_reducible refine hK _ ?_); clear hK K)
     refine wpAnyH_done (by kernel_rfl) ?_ _
     clear q0 q1 q2
     go_wp2
     go_ret
     exact RET.out _ _ HR.out HB2.out
   · have HR : Aside0 (mayR x = ownS x.f0 x.f1) := ⟨by rw [HE2.out, hm]; rfl⟩
     clear hm
     ((refine takeQ (i := 11) (by rfl) (by kernel_rfl) (by kernel_rfl) (by kernel_rfl) ?_ ?_ ?_); (focus first | exact fun _ _ _ _ h => h | exact fun _ _ _ _ h => HPQ.out _ _ _ _ (by rfl) h); (focus exact ⟨⟨_, HU2.out⟩, rfl⟩); intro K hK; go_simp; (with_reducible refine hK _ ?_); clear hK K)
     refine wpAnyH_done (by kernel_rfl) ?_ _
     clear q0 q1 q2
     by_cases k2 : x.f0 = 2
     · have k2b : (x.f0 != 2) = false := bne_eq_false_iff_eq.2 k2
       by_cases k3 : 1 ≤ (x.f1.length : Int)
       · by_cases k4 : (x.f1.length : Int) ≤ 20
         · have HO : Aside0 (ownS x.f0 x.f1 = eqS x.f1 (normS x.f1)) := ⟨by unfold ownS; rw [if_pos k2, decide_eq_true k3, decide_eq_true k4]; rfl⟩
           have hokR : okR x.f1 = true := okR_of hok (by omega)
           have HM := Aside0.mk (may_f x.f1 hokR 30 (by omega))
           clear k2 hokR
           go_wp2_with fail
           refine (runes_May.calls 30 A1 p1 x.f1 _ _ HC1'.out HP1.out HM.out).mono ?_
           rintro e u3 ⟨rfl, hb⟩
           have HB3 := Aside0.mk (join_below HB2.out hb)
           clear hb
           go_wp2
           go_ret
           exact RET.out _ _ (HR.out.trans HO.out) HB3.out
         · have HO : Aside0 (ownS x.f0 x.f1 = false) := ⟨by unfold ownS; rw [if_pos k2, decide_eq_false k4, Bool.and_false, Bool.false_and]⟩
           have k4b : decide ((x.f1.length : Int) ≤ 20) = false := decide_eq_false k4
           have k4c : decide (x.f1.length ≤ 20) = false := decide_eq_false (by omega)
           clear k2 k4
           go_wp2
           go_ret
           exact RET.out _ _ (HR.out.trans HO.out) HB2.out
       · have HO : Aside0 (ownS x.f0 x.f1 = false) := ⟨by unfold ownS; rw [if_pos k2, decide_eq_false k3, Bool.false_and, Bool.false_and]⟩
         have k3b : decide (1 ≤ (x.f1.length : Int)) = false := decide_eq_false k3
         have k3c : decide (1 ≤ x.f1.length) = false := decide_eq_false (by omega)
         clear k2 k3
         go_wp2
         go_ret
         exact RET.out _ _ (HR.out.trans HO.out) HB2.out
     · have k2b : (x.f0 != 2) = true := bne_iff_ne.2 k2
       have HO : Aside0 (ownS x.f0 x.f1 = ((x.f1.length : Int) == 0)) := ⟨by unfold ownS; rw [if_neg k2]⟩
       clear k2
       go_wp2
       go_ret
       exact RET.out _ _ (HR.out.trans HO.out) HB2.out
 · have hne : ((x.f2.length : Int) != partsS x.f0) = true := bne_iff_ne.2 c
   have HR : Aside0 (mayR x = false) := ⟨by rw [HE.out, decide_eq_false c]; rfl⟩
   clear c
   go_enter Tryd.func53, Tryd.ntmps53
   go_wp2
   clear hw1
   have hund : undef = Value.tuple #[] := rfl
   refine wp_region_held (S := fun w' => ∃ p : Later w1, w' = p.wx) (by kernel_rfl) ?_
   change wpAnyH _ _ _ _ _ _ _ _ (World.drew _)
   ((refine takeQ (i := 0) (by rfl) (by kernel_rfl) (by kernel_rfl) (by kernel_rfl) ?_ ?_ ?_); (focus first | exact fun _ _ _ _ h => h | exact fun _ _ _ _ h => HPQ.out _ _ _ _ (by rfl) h); (focus exact ⟨⟨_, HLAT.out⟩, rfl⟩); intro K hK; go_simp; (with_reducible refine hK _ ?_); clear hK K)
   ((refine takeQ (i := 1) (by rfl) (by kernel_rfl) (by kernel_rfl) (by kernel_rfl) ?_ ?_ ?_); (focus first | exact fun _ _ _ _ h => h | exact fun _ _ _ _ h => HPQ.out _ _ _ _ (by rfl) h); (focus exact ⟨⟨_, HLAT.out⟩, rfl⟩); intro K hK; go_simp; (with_reducible refine hK _ ?_); clear hK K)
   ((refine takeQ (i := 2) (by rfl) (by kernel_rfl) (by kernel_rfl) (by kernel_rfl) ?_ ?_ ?_); (focus first | exact fun _ _ _ _ h => h | exact fun _ _ _ _ h => HPQ.out _ _ _ _ (by rfl) h); (focus exact ⟨⟨_, HLAT.out⟩, rfl⟩); intro K hK; go_simp; (with_reducible refine hK _ ?_); clear hK K)
   ((refine takeQ (i := 3) (by rfl) (by kernel_rfl) (by kernel_rfl) (by kernel_rfl) ?_ ?_ ?_); (focus first | exact fun _ _ _ _ h => h | exact fun _ _ _ _ h => HPQ.out _ _ _ _ (by rfl) h); (focus exact ⟨⟨_, HLAT.out⟩, rfl⟩); intro K hK; go_simp; (with_reducible refine hK _ ?_); clear hK K)
   ((refine takeQ (i := 4) (by rfl) (by kernel_rfl) (by kernel_rfl) (by kernel_rfl) ?_ ?_ ?_); (focus first | exact fun _ _ _ _ h => h | exact fun _ _ _ _ h => HPQ.out _ _ _ _ (by rfl) h); (focus exact ⟨⟨_, HLAT.out⟩, rfl⟩); intro K hK; go_simp; (with_reducible refine hK _ ?_); clear hK K)
   refine hall1 (i := 5) (by kernel_rfl) (by rfl) (fun K hK => ?_)
   go_simp
   refine (regex_parts.calls 5 x.f0 (partsS x.f0) _ (parts_f _)).mono ?_
   rintro e u1 ⟨rfl, hd⟩
   have HU1 : Aside0 (Below w1.heap.size w1 u1) := ⟨join_below HLAT.out hd.below⟩
   clear hd
   refine hK _ _ ⟨⟨_, HU1.out⟩, rfl⟩ ?_
   clear hK K
   ((refine takeQ (i := 6) (by rfl) (by kernel_rfl) (by kernel_rfl) (by kernel_rfl) ?_ ?_ ?_); (focus first | exact fun _ _ _ _ h => h | exact fun _ _ _ _ h => HPQ.out _ _ _ _ (by rfl) h); (focus exact ⟨⟨_, HU1.out⟩, rfl⟩); intro K hK; go_simp; (with_reducible refine hK _ ?_); clear hK K)
   ((refine takeQ (i := 7) (by rfl) (by kernel_rfl) (by kernel_rfl) (by kernel_rfl) ?_ ?_ ?_); (focus first | exact fun _ _ _ _ h => h | exact fun _ _ _ _ h => HPQ.out _ _ _ _ (by rfl) h); (focus exact ⟨⟨_, HU1.out⟩, rfl⟩); intro K hK; go_simp; (with_reducible refine hK _ ?_); clear hK K)
   ((refine takeQ (i := 8) (by rfl) (by kernel_rfl) (by kernel_rfl) (by kernel_rfl) ?_ ?_ ?_); (focus first | exact fun _ _ _ _ h => h | exact fun _ _ _ _ h => HPQ.out _ _ _ _ (by rfl) h); (focus exact ⟨⟨_, HU1.out⟩, rfl⟩); intro K hK; go_simp; (with_reducible refine hK _ ?_); clear hK K)
   ((refine takeQ (i := 9) (by rfl) (by kernel_rfl) (by kernel_rfl) (by kernel_rfl) ?_ ?_ ?_); (focus first | exact fun _ _ _ _ h => h | exact fun _ _ _ _ h => HPQ.out _ _ _ _ (by rfl) h); (focus exact ⟨⟨_, HU1.out⟩, rfl⟩); intro K hK; go_simp; (with_reducible refine hK _ ?_); clear hK K)
   ((refine takeQ (i := 10) (by rfl) (by kernel_rfl) (by kernel_rfl) (by kernel_rfl) ?_ ?_ ?_); (focus first | exact fun _ _ _ _ h => h | exact fun _ _ _ _ h => HPQ.out _ _ _ _ (by rfl) h); (focus exact ⟨⟨_, HU1.out⟩, rfl⟩); intro K hK; go_simp; (with_reducible refine hK _ ?_); clear hK K)
   ((refine takeQ (i := 11) (by rfl) (by kernel_rfl) (by kernel_rfl) (by kernel_rfl) ?_ ?_ ?_); (focus first | exact fun _ _ _ _ h => h | exact fun _ _ _ _ h => HPQ.out _ _ _ _ (by rfl) h); (focus exact ⟨⟨_, HU1.out⟩, rfl⟩); intro K hK; go_simp; (with_reducible refine hK _ ?_); clear hK K)
   refine wpAnyH_done (by kernel_rfl) ?_ _
   go_wp2
   go_ret
   exact RET.out _ _ HR.out (join_below HB1.out HU1.out)
theorem may_all : ∀ (N : Nat) (x : Re), SizeOf.sizeOf x < N → okT x = true → MayC x
 | 0, x, h, _ => absurd h (Nat.not_lt_zero _)
 | N + 1, x, h, hok => by
  have ho : rgOk x.f1 = true ∧ okL x.f2 = true := by
   cases x
   simpa only [okT, Bool.and_eq_true] using hok
  exact may_go x (fun y hy => may_all N y (by
   have h1 := List.sizeOf_lt_of_mem hy
   have h2 : SizeOf.sizeOf x.f2 < SizeOf.sizeOf x := by
    cases x
    simp
    omega
   omega) (okL_mem ho.2 y hy)) ho.1
def regex_may.f (a0 : Int) (l1 : List Rg) (l2 : List Re) : Option Bool := if okT ⟨a0, l1, l2⟩ = true then some (mayR ⟨a0, l1, l2⟩) else none
theorem regex_may.calls (a0_0 : Int) (A0_1 : Option Addr) (c0_1 : Nat) (l0_1 : List Rg) (A0_2 : Option Addr) (c0_2 : Nat) (l0_2 : List Re) (r : Bool) (w : World) (hr0_1 : Kd.C k56 w A0_1 l0_1.length l0_1) (hc0_1 : l0_1.length ≤ c0_1) (hr0_2 : Kd.C k48 w A0_2 l0_2.length l0_2) (hc0_2 : l0_2.length ≤ c0_2) (h : regex_may.f a0_0 l0_1 l0_2 = some r) :
 Calls Tryd.prog 53 #[.agg #[.int .i64 a0_0, .slice A0_1 l0_1.length c0_1, .slice A0_2 l0_2.length c0_2]] w fun e w' => e = .returned (.bool r) ∧ Below w.heap.size w w' := by
 have hok : okT ⟨a0_0, l0_1, l0_2⟩ = true := by
  unfold regex_may.f at h
  by_cases c : okT ⟨a0_0, l0_1, l0_2⟩ = true
  · exact c
  · rw [if_neg c] at h
    cases h
 have hr : mayR ⟨a0_0, l0_1, l0_2⟩ = r := by
  unfold regex_may.f at h
  rw [if_pos hok] at h
  exact Option.some.inj h
 rw [← hr]
 exact may_all _ ⟨a0_0, l0_1, l0_2⟩ (Nat.lt_succ_self _) hok w w _ (Below.refl _ _) (k48_mk w ⟨a0_0, l0_1, l0_2⟩ hc0_1 hr0_1 hc0_2 hr0_2)
end Go.Proofs.YthdfmbmbjpmlaaaDoor.Rn
end
section
namespace Go.Proofs.YthdfmbmbjpmlaaaDoor.Rn
open Go.RowKit Go.Proofs.YthdfmbmbjpmlaaaDoorW.PrintWords Go.Proofs.YthdfmbmbjpmlaaaDoorW.PrintLast Go.Proofs.YthdfmbmbjpmlaaaDoorW.PrintMore
attribute [local go_sem] max2_int min2_int max_two min_two max_three min_three max_four min_four   -- for this text's walks alone
set_option linter.unusedVariables false
set_option linter.unusedSimpArgs false
def regex_May.f (a0_0 : Int) (l0_1 : List (S56)) (l0_2 : List (S48)) : Option (Bool) := (regex_within.f a0_0 l0_1 l0_2).bind fun t298 => (if t298 = true then ((regex_may.f a0_0 l0_1 l0_2).bind fun t299 => (some t299)) else (some false))
set_option maxHeartbeats 8000000 in
set_option maxRecDepth 100000 in
theorem regex_May.calls (a0_0 : Int) (A0_1 : Option Addr) (c0_1 : Nat) (l0_1 : List (S56)) (A0_2 : Option Addr) (c0_2 : Nat) (l0_2 : List (S48)) (r : Bool) (w : World) (hr0_1 : Kd.C k56 w A0_1 l0_1.length l0_1) (hc0_1 : l0_1.length ≤ c0_1) (hr0_2 : Kd.C k48 w A0_2 l0_2.length l0_2) (hc0_2 : l0_2.length ≤ c0_2) (h : regex_May.f a0_0 l0_1 l0_2 = some r) :
 Calls Tryd.prog 43 #[.agg #[.int .i64 a0_0, .slice A0_1 l0_1.length c0_1, .slice A0_2 l0_2.length c0_2]] w fun e w' => e = .returned (.bool r) ∧ Below w.heap.size w w' := by
 have hu48 := Tryd.underlying48
 have HR0_1 := Aside0.mk hr0_1
 have HC0_1 := Aside0.mk hc0_1
 clear hr0_1 hc0_1
 have HR0_2 := Aside0.mk hr0_2
 have HC0_2 := Aside0.mk hc0_2
 clear hr0_2 hc0_2
 have HB := Aside0.mk (Below.refl w.heap.size w)
 have H : ((regex_within.f a0_0 l0_1 l0_2).bind fun t298 => (if t298 = true then ((regex_may.f a0_0 l0_1 l0_2).bind fun t299 => (some t299)) else (some false))) = some r := h
 clear h
 replace H := Option.bind_eq_some_iff.mp H
 obtain ⟨t298, A20, H⟩ := H
 replace H : (if t298 = true then ((regex_may.f a0_0 l0_1 l0_2).bind fun t299 => (some t299)) else (some false)) = some r := H
 have A2 := Aside0.mk A20
 clear A20
 by_cases c3 : t298 = true
 · subst c3
   have H1 : ((regex_may.f a0_0 l0_1 l0_2).bind fun t299 => (some t299)) = some r := by rw [if_pos rfl] at H; exact H
   clear H
   have H := H1
   clear H1
   replace H := Option.bind_eq_some_iff.mp H
   obtain ⟨t299, A40, H⟩ := H
   replace H : (some t299) = some r := H
   have A4 := Aside0.mk A40
   clear A40
   obtain rfl := Option.some.inj H
   go_enter Tryd.func43, Tryd.ntmps43
   go_wp2_with (first | ((with_reducible refine gate_dst (N := 1) rfl ?_); refine box_event ?hg (N := 1) ?hd (cs := #[.int .i64 a0_0, .slice A0_1 l0_1.length c0_1, .slice A0_2 l0_2.length c0_2]) (t := 48) ?hr ?_; (case hd => rfl); (case hg => rfl); (case hr => first | (go_simp; done) | (go_simp; rfl)); intro gb297 hg w5 hbox hb; have n0_ := Aside0.mk (below_step (by repeat (first | (with_reducible first | exact HB.out | apply below_alloc | apply pw_below_drewN | apply below_drew1) | exact HB.out)) hb); have n1_ := Aside0.mk (hbox); have n2_ := Aside0.mk ((by rw [hg]; exact (below_size (by repeat (first | (with_reducible first | exact HB.out | apply below_alloc | apply pw_below_drewN | apply below_drew1) | exact HB.out))) : w.heap.size ≤ gb297)); have n3_ := Aside0.mk ((by rw [hg]; exact (below_size (by repeat (first | (with_reducible first | exact HB.out | apply below_alloc | apply pw_below_drewN | apply below_drew1) | exact HB.out))) : w.heap.size ≤ gb297)); clear HB; have HB := n0_; have BK297 := n1_; have GW297 := n2_; have GE297 := n3_; clear n0_ n1_ n2_ n3_; clear hb hbox hg; have hcz6_0 : w5.cell? ⟨gb297, 0, none⟩ = some (.int .i64 a0_0) := (blk_cell BK297.out 0).trans rfl; have hcz6_1 : w5.cell? ⟨gb297, 1, none⟩ = some (.slice A0_1 l0_1.length c0_1) := (blk_cell BK297.out 1).trans rfl; have hcz6_2 : w5.cell? ⟨gb297, 2, none⟩ = some (.slice A0_2 l0_2.length c0_2) := (blk_cell BK297.out 2).trans rfl; have hfz6_0 := blk_frozen BK297.out 0; have hfz6_1 := blk_frozen BK297.out 1; have hfz6_2 := blk_frozen BK297.out 2) | ((with_reducible refine gate_callee (f := 52) rfl ?_); refine goesL_ (some 4) rfl rfl Tryd.func52 (by kernel_rfl) rfl #[.agg #[.int .i64 a0_0, .slice A0_1 l0_1.length c0_1, .slice A0_2 l0_2.length c0_2]] rfl (by (try simp only [List.map_toArray, List.map_cons, List.map_nil]); first | done | rfl | (simp only [List.length_drop, List.length_take]; rfl)) ?_; (with_reducible refine (regex_within.calls a0_0 _ _ l0_1 _ _ l0_2 true _ ?side1 ?side2 ?side3 ?side4 A2.out).mono ?_); (case side1 => repeat (first | exact (Kd.C_below HR0_1.out HB.out) | (with_reducible refine Kd.C_alloc ?_ _) | (with_reducible refine Kd.C_drewN ?_ _) | (with_reducible refine Kd.C_drew ?_))); (case side2 => exact HC0_1.out); (case side3 => repeat (first | exact (Kd.C_below HR0_2.out HB.out) | (with_reducible refine Kd.C_alloc ?_ _) | (with_reducible refine Kd.C_drewN ?_ _) | (with_reducible refine Kd.C_drew ?_))); (case side4 => exact HC0_2.out); rintro e w7 ⟨rfl, hb⟩; refine ⟨_, rfl, ?_⟩; have n0_ := Aside0.mk (blk_below (g := gb297) (o := .cells #[.int .i64 a0_0, .slice A0_1 l0_1.length c0_1, .slice A0_2 l0_2.length c0_2] 48 (0, 0)) (by (with_reducible repeat (first | refine blk_drewN ?_ _ | refine blk_drew ?_ | refine blk_alloc ?_ _)); exact BK297.out) hb); have n1_ := Aside0.mk (below_step (by repeat (first | (with_reducible first | exact HB.out | apply below_alloc | apply pw_below_drewN | apply below_drew1 | refine below_set ?_ GE297.out) | exact HB.out)) hb); clear BK297; clear HB; have BK297 := n0_; have HB := n1_; clear n0_ n1_; (try clear hb); (try clear hb2); (try clear hk); (try clear hi); have hcz8_0 : w7.cell? ⟨gb297, 0, none⟩ = some (.int .i64 a0_0) := (blk_cell BK297.out 0).trans rfl; have hcz8_1 : w7.cell? ⟨gb297, 1, none⟩ = some (.slice A0_1 l0_1.length c0_1) := (blk_cell BK297.out 1).trans rfl; have hcz8_2 : w7.cell? ⟨gb297, 2, none⟩ = some (.slice A0_2 l0_2.length c0_2) := (blk_cell BK297.out 2).trans rfl; have hfz8_0 := blk_frozen BK297.out 0; have hfz8_1 := blk_frozen BK297.out 1; have hfz8_2 := blk_frozen BK297.out 2) | (go_at_call 53; (with_reducible refine (regex_may.calls a0_0 _ _ l0_1 _ _ l0_2 t299 _ ?side1 ?side2 ?side3 ?side4 A4.out).mono ?_); (case side1 => repeat (first | exact (Kd.C_below HR0_1.out HB.out) | (with_reducible refine Kd.C_alloc ?_ _) | (with_reducible refine Kd.C_drewN ?_ _) | (with_reducible refine Kd.C_drew ?_))); (case side2 => exact HC0_1.out); (case side3 => repeat (first | exact (Kd.C_below HR0_2.out HB.out) | (with_reducible refine Kd.C_alloc ?_ _) | (with_reducible refine Kd.C_drewN ?_ _) | (with_reducible refine Kd.C_drew ?_))); (case side4 => exact HC0_2.out); rintro e w9 ⟨rfl, hb⟩; have n0_ := Aside0.mk (blk_below (g := gb297) (o := .cells #[.int .i64 a0_0, .slice A0_1 l0_1.length c0_1, .slice A0_2 l0_2.length c0_2] 48 (0, 0)) (by (with_reducible repeat (first | refine blk_drewN ?_ _ | refine blk_drew ?_ | refine blk_alloc ?_ _)); exact BK297.out) hb); have n1_ := Aside0.mk (below_step (by repeat (first | (with_reducible first | exact HB.out | apply below_alloc | apply pw_below_drewN | apply below_drew1 | refine below_set ?_ GE297.out) | exact HB.out)) hb); clear BK297; clear HB; have BK297 := n0_; have HB := n1_; clear n0_ n1_; (try clear hb); (try clear hb2); (try clear hk); (try clear hi)))
   go_ret
   exact ⟨by first | rfl | (simp [errW_none, errW_some] <;> rfl) | (simp [*, errW_none, errW_some] <;> rfl), by repeat (first | (with_reducible first | exact HB.out | apply below_alloc | apply pw_below_drewN | apply below_drew1 | refine below_set ?_ GE297.out) | exact HB.out)⟩
 · replace c3 := Bool.eq_false_iff.mpr c3
   subst c3
   have H1 : (some false) = some r := by rw [if_neg (show ¬ (false = true) by decide)] at H; exact H
   clear H
   have H := H1
   clear H1
   obtain rfl := Option.some.inj H
   go_enter Tryd.func43, Tryd.ntmps43
   go_wp2_with (first | ((with_reducible refine gate_dst (N := 1) rfl ?_); refine box_event ?hg (N := 1) ?hd (cs := #[.int .i64 a0_0, .slice A0_1 l0_1.length c0_1, .slice A0_2 l0_2.length c0_2]) (t := 48) ?hr ?_; (case hd => rfl); (case hg => rfl); (case hr => first | (go_simp; done) | (go_simp; rfl)); intro gb297 hg w10 hbox hb; have n0_ := Aside0.mk (below_step (by repeat (first | (with_reducible first | exact HB.out | apply below_alloc | apply pw_below_drewN | apply below_drew1) | exact HB.out)) hb); have n1_ := Aside0.mk (hbox); have n2_ := Aside0.mk ((by rw [hg]; exact (below_size (by repeat (first | (with_reducible first | exact HB.out | apply below_alloc | apply pw_below_drewN | apply below_drew1) | exact HB.out))) : w.heap.size ≤ gb297)); have n3_ := Aside0.mk ((by rw [hg]; exact (below_size (by repeat (first | (with_reducible first | exact HB.out | apply below_alloc | apply pw_below_drewN | apply below_drew1) | exact HB.out))) : w.heap.size ≤ gb297)); clear HB; have HB := n0_; have BK297 := n1_; have GW297 := n2_; have GE297 := n3_; clear n0_ n1_ n2_ n3_; clear hb hbox hg; have hcz11_0 : w10.cell? ⟨gb297, 0, none⟩ = some (.int .i64 a0_0) := (blk_cell BK297.out 0).trans rfl; have hcz11_1 : w10.cell? ⟨gb297, 1, none⟩ = some (.slice A0_1 l0_1.length c0_1) := (blk_cell BK297.out 1).trans rfl; have hcz11_2 : w10.cell? ⟨gb297, 2, none⟩ = some (.slice A0_2 l0_2.length c0_2) := (blk_cell BK297.out 2).trans rfl; have hfz11_0 := blk_frozen BK297.out 0; have hfz11_1 := blk_frozen BK297.out 1; have hfz11_2 := blk_frozen BK297.out 2) | ((with_reducible refine gate_callee (f := 52) rfl ?_); refine goesL_ (some 4) rfl rfl Tryd.func52 (by kernel_rfl) rfl #[.agg #[.int .i64 a0_0, .slice A0_1 l0_1.length c0_1, .slice A0_2 l0_2.length c0_2]] rfl (by (try simp only [List.map_toArray, List.map_cons, List.map_nil]); first | done | rfl | (simp only [List.length_drop, List.length_take]; rfl)) ?_; (with_reducible refine (regex_within.calls a0_0 _ _ l0_1 _ _ l0_2 false _ ?side1 ?side2 ?side3 ?side4 A2.out).mono ?_); (case side1 => repeat (first | exact (Kd.C_below HR0_1.out HB.out) | (with_reducible refine Kd.C_alloc ?_ _) | (with_reducible refine Kd.C_drewN ?_ _) | (with_reducible refine Kd.C_drew ?_))); (case side2 => exact HC0_1.out); (case side3 => repeat (first | exact (Kd.C_below HR0_2.out HB.out) | (with_reducible refine Kd.C_alloc ?_ _) | (with_reducible refine Kd.C_drewN ?_ _) | (with_reducible refine Kd.C_drew ?_))); (case side4 => exact HC0_2.out); rintro e w12 ⟨rfl, hb⟩; refine ⟨_, rfl, ?_⟩; have n0_ := Aside0.mk (blk_below (g := gb297) (o := .cells #[.int .i64 a0_0, .slice A0_1 l0_1.length c0_1, .slice A0_2 l0_2.length c0_2] 48 (0, 0)) (by (with_reducible repeat (first | refine blk_drewN ?_ _ | refine blk_drew ?_ | refine blk_alloc ?_ _)); exact BK297.out) hb); have n1_ := Aside0.mk (below_step (by repeat (first | (with_reducible first | exact HB.out | apply below_alloc | apply pw_below_drewN | apply below_drew1 | refine below_set ?_ GE297.out) | exact HB.out)) hb); clear BK297; clear HB; have BK297 := n0_; have HB := n1_; clear n0_ n1_; (try clear hb); (try clear hb2); (try clear hk); (try clear hi)))
   go_ret
   exact ⟨by first | rfl | (simp [errW_none, errW_some] <;> rfl) | (simp [*, errW_none, errW_some] <;> rfl), by repeat (first | (with_reducible first | exact HB.out | apply below_alloc | apply pw_below_drewN | apply below_drew1 | refine below_set ?_ GE297.out) | exact HB.out)⟩
def regex_Empty.f (k : Nat) (a0_0 : Int) (l0_1 : List (S56)) (l0_2 : List (S48)) : Option (Bool) := (regex_May.f a0_0 l0_1 l0_2).bind fun t310 => (if t310 = true then ((regex_empty.f k a0_0 l0_1 l0_2).bind fun t311 => (some t311)) else (some false))
theorem regex_Empty.mono : ∀ a0 a1 a2 k, LeO (regex_Empty.f k a0 a1 a2) (regex_Empty.f (k + 1) a0 a1 a2) := by
 intro a0 a1 a2 k
 unfold regex_Empty.f
 repeat' first
  | (with_reducible exact regex_empty.mono _ _ _ _)
  | (with_reducible exact LeO.refl _)
  | (with_reducible exact LeO.none _)
  | (with_reducible refine LeO.ite ?_ ?_)
  | (with_reducible refine LeO.bind ?_ (fun _ => ?_))
  | exact regex_empty.mono _ _ _ _
  | exact LeO.none _
  | refine LeO.ite ?_ ?_
  | refine LeO.bind ?_ (fun _ => ?_)
set_option maxHeartbeats 8000000 in
set_option maxRecDepth 100000 in
theorem regex_Empty.calls (k : Nat) (a0_0 : Int) (A0_1 : Option Addr) (c0_1 : Nat) (l0_1 : List (S56)) (A0_2 : Option Addr) (c0_2 : Nat) (l0_2 : List (S48)) (r : Bool) (w : World) (hr0_1 : Kd.C k56 w A0_1 l0_1.length l0_1) (hc0_1 : l0_1.length ≤ c0_1) (hr0_2 : Kd.C k48 w A0_2 l0_2.length l0_2) (hc0_2 : l0_2.length ≤ c0_2) (h : regex_Empty.f k a0_0 l0_1 l0_2 = some r) :
 Calls Tryd.prog 44 #[.agg #[.int .i64 a0_0, .slice A0_1 l0_1.length c0_1, .slice A0_2 l0_2.length c0_2]] w fun e w' => e = .returned (.bool r) ∧ Below w.heap.size w w' := by
 have hu48 := Tryd.underlying48
 have HR0_1 := Aside0.mk hr0_1
 have HC0_1 := Aside0.mk hc0_1
 clear hr0_1 hc0_1
 have HR0_2 := Aside0.mk hr0_2
 have HC0_2 := Aside0.mk hc0_2
 clear hr0_2 hc0_2
 have HB := Aside0.mk (Below.refl w.heap.size w)
 have H : ((regex_May.f a0_0 l0_1 l0_2).bind fun t310 => (if t310 = true then ((regex_empty.f k a0_0 l0_1 l0_2).bind fun t311 => (some t311)) else (some false))) = some r := h
 clear h
 replace H := Option.bind_eq_some_iff.mp H
 obtain ⟨t310, A20, H⟩ := H
 replace H : (if t310 = true then ((regex_empty.f k a0_0 l0_1 l0_2).bind fun t311 => (some t311)) else (some false)) = some r := H
 have A2 := Aside0.mk A20
 clear A20
 by_cases c3 : t310 = true
 · subst c3
   have H1 : ((regex_empty.f k a0_0 l0_1 l0_2).bind fun t311 => (some t311)) = some r := by rw [if_pos rfl] at H; exact H
   clear H
   have H := H1
   clear H1
   replace H := Option.bind_eq_some_iff.mp H
   obtain ⟨t311, A40, H⟩ := H
   replace H : (some t311) = some r := H
   have A4 := Aside0.mk A40
   clear A40
   obtain rfl := Option.some.inj H
   go_enter Tryd.func44, Tryd.ntmps44
   go_wp2_with (first | ((with_reducible refine gate_dst (N := 1) rfl ?_); refine box_event ?hg (N := 1) ?hd (cs := #[.int .i64 a0_0, .slice A0_1 l0_1.length c0_1, .slice A0_2 l0_2.length c0_2]) (t := 48) ?hr ?_; (case hd => rfl); (case hg => rfl); (case hr => first | (go_simp; done) | (go_simp; rfl)); intro gb309 hg w5 hbox hb; have n0_ := Aside0.mk (below_step (by repeat (first | (with_reducible first | exact HB.out | apply below_alloc | apply pw_below_drewN | apply below_drew1) | exact HB.out)) hb); have n1_ := Aside0.mk (hbox); have n2_ := Aside0.mk ((by rw [hg]; exact (below_size (by repeat (first | (with_reducible first | exact HB.out | apply below_alloc | apply pw_below_drewN | apply below_drew1) | exact HB.out))) : w.heap.size ≤ gb309)); have n3_ := Aside0.mk ((by rw [hg]; exact (below_size (by repeat (first | (with_reducible first | exact HB.out | apply below_alloc | apply pw_below_drewN | apply below_drew1) | exact HB.out))) : w.heap.size ≤ gb309)); clear HB; have HB := n0_; have BK309 := n1_; have GW309 := n2_; have GE309 := n3_; clear n0_ n1_ n2_ n3_; clear hb hbox hg; have hcz6_0 : w5.cell? ⟨gb309, 0, none⟩ = some (.int .i64 a0_0) := (blk_cell BK309.out 0).trans rfl; have hcz6_1 : w5.cell? ⟨gb309, 1, none⟩ = some (.slice A0_1 l0_1.length c0_1) := (blk_cell BK309.out 1).trans rfl; have hcz6_2 : w5.cell? ⟨gb309, 2, none⟩ = some (.slice A0_2 l0_2.length c0_2) := (blk_cell BK309.out 2).trans rfl; have hfz6_0 := blk_frozen BK309.out 0; have hfz6_1 := blk_frozen BK309.out 1; have hfz6_2 := blk_frozen BK309.out 2) | ((with_reducible refine gate_callee (f := 43) rfl ?_); refine goesL_ (some 4) rfl rfl Tryd.func43 (by kernel_rfl) rfl #[.agg #[.int .i64 a0_0, .slice A0_1 l0_1.length c0_1, .slice A0_2 l0_2.length c0_2]] rfl (by (try simp only [List.map_toArray, List.map_cons, List.map_nil]); first | done | rfl | (simp only [List.length_drop, List.length_take]; rfl)) ?_; (with_reducible refine (regex_May.calls a0_0 _ _ l0_1 _ _ l0_2 true _ ?side1 ?side2 ?side3 ?side4 A2.out).mono ?_); (case side1 => repeat (first | exact (Kd.C_below HR0_1.out HB.out) | (with_reducible refine Kd.C_alloc ?_ _) | (with_reducible refine Kd.C_drewN ?_ _) | (with_reducible refine Kd.C_drew ?_))); (case side2 => exact HC0_1.out); (case side3 => repeat (first | exact (Kd.C_below HR0_2.out HB.out) | (with_reducible refine Kd.C_alloc ?_ _) | (with_reducible refine Kd.C_drewN ?_ _) | (with_reducible refine Kd.C_drew ?_))); (case side4 => exact HC0_2.out); rintro e w7 ⟨rfl, hb⟩; refine ⟨_, rfl, ?_⟩; have n0_ := Aside0.mk (blk_below (g := gb309) (o := .cells #[.int .i64 a0_0, .slice A0_1 l0_1.length c0_1, .slice A0_2 l0_2.length c0_2] 48 (0, 0)) (by (with_reducible repeat (first | refine blk_drewN ?_ _ | refine blk_drew ?_ | refine blk_alloc ?_ _)); exact BK309.out) hb); have n1_ := Aside0.mk (below_step (by repeat (first | (with_reducible first | exact HB.out | apply below_alloc | apply pw_below_drewN | apply below_drew1 | refine below_set ?_ GE309.out) | exact HB.out)) hb); clear BK309; clear HB; have BK309 := n0_; have HB := n1_; clear n0_ n1_; (try clear hb); (try clear hb2); (try clear hk); (try clear hi); have hcz8_0 : w7.cell? ⟨gb309, 0, none⟩ = some (.int .i64 a0_0) := (blk_cell BK309.out 0).trans rfl; have hcz8_1 : w7.cell? ⟨gb309, 1, none⟩ = some (.slice A0_1 l0_1.length c0_1) := (blk_cell BK309.out 1).trans rfl; have hcz8_2 : w7.cell? ⟨gb309, 2, none⟩ = some (.slice A0_2 l0_2.length c0_2) := (blk_cell BK309.out 2).trans rfl; have hfz8_0 := blk_frozen BK309.out 0; have hfz8_1 := blk_frozen BK309.out 1; have hfz8_2 := blk_frozen BK309.out 2) | (go_at_call 54; (with_reducible refine (regex_empty.calls k a0_0 _ _ l0_1 _ _ l0_2 t311 _ ?side1 ?side2 ?side3 ?side4 A4.out).mono ?_); (case side1 => repeat (first | exact (Kd.C_below HR0_1.out HB.out) | (with_reducible refine Kd.C_alloc ?_ _) | (with_reducible refine Kd.C_drewN ?_ _) | (with_reducible refine Kd.C_drew ?_))); (case side2 => exact HC0_1.out); (case side3 => repeat (first | exact (Kd.C_below HR0_2.out HB.out) | (with_reducible refine Kd.C_alloc ?_ _) | (with_reducible refine Kd.C_drewN ?_ _) | (with_reducible refine Kd.C_drew ?_))); (case side4 => exact HC0_2.out); rintro e w9 ⟨rfl, hb⟩; have n0_ := Aside0.mk (blk_below (g := gb309) (o := .cells #[.int .i64 a0_0, .slice A0_1 l0_1.length c0_1, .slice A0_2 l0_2.length c0_2] 48 (0, 0)) (by (with_reducible repeat (first | refine blk_drewN ?_ _ | refine blk_drew ?_ | refine blk_alloc ?_ _)); exact BK309.out) hb); have n1_ := Aside0.mk (below_step (by repeat (first | (with_reducible first | exact HB.out | apply below_alloc | apply pw_below_drewN | apply below_drew1 | refine below_set ?_ GE309.out) | exact HB.out)) hb); clear BK309; clear HB; have BK309 := n0_; have HB := n1_; clear n0_ n1_; (try clear hb); (try clear hb2); (try clear hk); (try clear hi)))
   go_ret
   exact ⟨by first | rfl | (simp [errW_none, errW_some] <;> rfl) | (simp [*, errW_none, errW_some] <;> rfl), by repeat (first | (with_reducible first | exact HB.out | apply below_alloc | apply pw_below_drewN | apply below_drew1 | refine below_set ?_ GE309.out) | exact HB.out)⟩
 · replace c3 := Bool.eq_false_iff.mpr c3
   subst c3
   have H1 : (some false) = some r := by rw [if_neg (show ¬ (false = true) by decide)] at H; exact H
   clear H
   have H := H1
   clear H1
   obtain rfl := Option.some.inj H
   go_enter Tryd.func44, Tryd.ntmps44
   go_wp2_with (first | ((with_reducible refine gate_dst (N := 1) rfl ?_); refine box_event ?hg (N := 1) ?hd (cs := #[.int .i64 a0_0, .slice A0_1 l0_1.length c0_1, .slice A0_2 l0_2.length c0_2]) (t := 48) ?hr ?_; (case hd => rfl); (case hg => rfl); (case hr => first | (go_simp; done) | (go_simp; rfl)); intro gb309 hg w10 hbox hb; have n0_ := Aside0.mk (below_step (by repeat (first | (with_reducible first | exact HB.out | apply below_alloc | apply pw_below_drewN | apply below_drew1) | exact HB.out)) hb); have n1_ := Aside0.mk (hbox); have n2_ := Aside0.mk ((by rw [hg]; exact (below_size (by repeat (first | (with_reducible first | exact HB.out | apply below_alloc | apply pw_below_drewN | apply below_drew1) | exact HB.out))) : w.heap.size ≤ gb309)); have n3_ := Aside0.mk ((by rw [hg]; exact (below_size (by repeat (first | (with_reducible first | exact HB.out | apply below_alloc | apply pw_below_drewN | apply below_drew1) | exact HB.out))) : w.heap.size ≤ gb309)); clear HB; have HB := n0_; have BK309 := n1_; have GW309 := n2_; have GE309 := n3_; clear n0_ n1_ n2_ n3_; clear hb hbox hg; have hcz11_0 : w10.cell? ⟨gb309, 0, none⟩ = some (.int .i64 a0_0) := (blk_cell BK309.out 0).trans rfl; have hcz11_1 : w10.cell? ⟨gb309, 1, none⟩ = some (.slice A0_1 l0_1.length c0_1) := (blk_cell BK309.out 1).trans rfl; have hcz11_2 : w10.cell? ⟨gb309, 2, none⟩ = some (.slice A0_2 l0_2.length c0_2) := (blk_cell BK309.out 2).trans rfl; have hfz11_0 := blk_frozen BK309.out 0; have hfz11_1 := blk_frozen BK309.out 1; have hfz11_2 := blk_frozen BK309.out 2) | ((with_reducible refine gate_callee (f := 43) rfl ?_); refine goesL_ (some 4) rfl rfl Tryd.func43 (by kernel_rfl) rfl #[.agg #[.int .i64 a0_0, .slice A0_1 l0_1.length c0_1, .slice A0_2 l0_2.length c0_2]] rfl (by (try simp only [List.map_toArray, List.map_cons, List.map_nil]); first | done | rfl | (simp only [List.length_drop, List.length_take]; rfl)) ?_; (with_reducible refine (regex_May.calls a0_0 _ _ l0_1 _ _ l0_2 false _ ?side1 ?side2 ?side3 ?side4 A2.out).mono ?_); (case side1 => repeat (first | exact (Kd.C_below HR0_1.out HB.out) | (with_reducible refine Kd.C_alloc ?_ _) | (with_reducible refine Kd.C_drewN ?_ _) | (with_reducible refine Kd.C_drew ?_))); (case side2 => exact HC0_1.out); (case side3 => repeat (first | exact (Kd.C_below HR0_2.out HB.out) | (with_reducible refine Kd.C_alloc ?_ _) | (with_reducible refine Kd.C_drewN ?_ _) | (with_reducible refine Kd.C_drew ?_))); (case side4 => exact HC0_2.out); rintro e w12 ⟨rfl, hb⟩; refine ⟨_, rfl, ?_⟩; have n0_ := Aside0.mk (blk_below (g := gb309) (o := .cells #[.int .i64 a0_0, .slice A0_1 l0_1.length c0_1, .slice A0_2 l0_2.length c0_2] 48 (0, 0)) (by (with_reducible repeat (first | refine blk_drewN ?_ _ | refine blk_drew ?_ | refine blk_alloc ?_ _)); exact BK309.out) hb); have n1_ := Aside0.mk (below_step (by repeat (first | (with_reducible first | exact HB.out | apply below_alloc | apply pw_below_drewN | apply below_drew1 | refine below_set ?_ GE309.out) | exact HB.out)) hb); clear BK309; clear HB; have BK309 := n0_; have HB := n1_; clear n0_ n1_; (try clear hb); (try clear hb2); (try clear hk); (try clear hi)))
   go_ret
   exact ⟨by first | rfl | (simp [errW_none, errW_some] <;> rfl) | (simp [*, errW_none, errW_some] <;> rfl), by repeat (first | (with_reducible first | exact HB.out | apply below_alloc | apply pw_below_drewN | apply below_drew1 | refine below_set ?_ GE309.out) | exact HB.out)⟩
end Go.Proofs.YthdfmbmbjpmlaaaDoor.Rn
end
section
set_option linter.unusedVariables false
set_option linter.unusedSimpArgs false
namespace Go.Proofs.YthdfmbmbjpmlaaaDoor.Rn
open Go Go.RowKit Go.Proofs.YthdfmbmbjpmlaaaDoorW.PrintWords Go.Proofs.YthdfmbmbjpmlaaaDoorW.PrintLast Go.Proofs.YthdfmbmbjpmlaaaDoorW.PrintMore
def tokS (M E : Tok → Bool) (T : List Tok) (t : Tok) (i : Nat) : Option Int :=
 if (nameS t.f0 && (findS T t.f0 0 == (i : Int))) = true then
  (if (t.f1 == 0 || t.f1 == 1 || t.f1 == 2) = true then
   orS (classS t.f2) (if M t = true then (if E t = false then none else some 11) else some 6)
  else some 5)
 else some 4
structure TokOk (M E : Tok → Bool) (t : Tok) : Prop where
 s : t.f0.size ≤ 9223372036854775807
 m : regex_May.f t.f3.f0 t.f3.f1 t.f3.f2 = some (M t)
 e : M t = true → ∃ k, regex_Empty.f k t.f3.f0 t.f3.f1 t.f3.f2 = some (E t)
set_option maxHeartbeats 4000000 in
set_option maxRecDepth 100000 in
theorem token_any (M E : Tok → Bool) (T : List Tok) (i : Nat) (t : Tok) (hi : T[i]? = some t) (ht : TokOk M E t) (bc : Nat) (AT : Option Addr) (ct : Nat) (AR : Option Addr) (R : List Rul) (cr : Nat) (wh : Int) (W : World) (hc : CourtAt bc AT T ct AR R cr wh W) (hT : kTok.C W AT T.length T) (hO : OwnAt W) :
 Calls Tryd.prog 30 #[.pointer (some ⟨bc, 0, none⟩), .int .i64 i] W (CourtPost wh (tokS M E T t i) W) := by
 have hlt : i < T.length := (List.getElem?_eq_some_iff.1 hi).1
 obtain ⟨g, o, rfl, hgl, hcell⟩ := row_cells hT (by omega) (by decide)
 obtain ⟨cs, _, hK, hcc⟩ := hcell i t hi
 obtain ⟨A4, c4, A5, c5, rfl, q4, C4, q5, C5⟩ := k50_open hK
 have v0 := hcc 0 (.string t.f0) rfl
 have v1 := hcc 1 (.int .i64 t.f1) rfl
 have v2 := hcc 2 (.int .i64 t.f2) rfl
 have v3 := hcc 3 (.int .i64 t.f3.f0) rfl
 have v4 := hcc 4 (.slice A4 t.f3.f1.length c4) rfl
 have v5 := hcc 5 (.slice A5 t.f3.f2.length c5) rfl
 rw [Nat.add_zero] at v0
 simp only [show kTok.sz = 6 from rfl] at v0 v1 v2 v3 v4 v5
 obtain ⟨w1, hw1⟩ : ∃ w1, W.alloc (.cells #[.string t.f0, .int .i64 t.f1, .int .i64 t.f2, .int .i64 t.f3.f0, .slice A4 t.f3.f1.length c4, .slice A5 t.f3.f2.length c5] 50) = w1 := ⟨_, rfl⟩
 have hnew : w1.heap[W.heap.size]? = some (.cells #[.string t.f0, .int .i64 t.f1, .int .i64 t.f2, .int .i64 t.f3.f0, .slice A4 t.f3.f1.length c4, .slice A5 t.f3.f2.length c5] 50 (0, 0)) := by rw [← hw1]; exact blk_new _ _
 have hB1 : Below W.heap.size W w1 := hw1 ▸ below1 W _
 have b0 : W.cell? ⟨bc, 0, none⟩ = some (.slice (some ⟨g, o, none⟩) T.length ct) := (blk_cell hc 0).trans rfl
 have hc1 := CourtAt.later hc hB1
 have qa : ∀ p : Later w1, p.wx.cell? ⟨bc, 0, none⟩ = some (.slice (some ⟨g, o, none⟩) T.length ct) := fun p => cell_after p.below ((blk_cell hc1 0).trans rfl)
 have qb : ∀ p : Later w1, p.wx.cell? ⟨bc, 1, none⟩ = some (.slice AR R.length cr) := fun p => cell_after p.below ((blk_cell hc1 1).trans rfl)
 have q0 : ∀ p : Later w1, p.wx.cell? ⟨W.heap.size, 0, none⟩ = some (.string t.f0) := fun p => cell_after p.below ((blk_cell hnew 0).trans rfl)
 have HLAT : Aside0 (Below w1.heap.size w1 w1.drew) := ⟨below_drew1 (Below.refl _ _)⟩
 have HB1 := Aside0.mk hB1
 have HN := Aside0.mk hnew
 have HC := Aside0.mk hc
 have HT := Aside0.mk hT
 have HO := Aside0.mk hO
 have HTK := Aside0.mk ht
 have HC4 := Aside0.mk (And.intro q4 C4)
 have HC5 := Aside0.mk (And.intro q5 C5)
 obtain ⟨res, hres⟩ : ∃ res, tokS M E T t i = res := ⟨_, rfl⟩
 have HR0 := Aside0.mk hres
 rw [hres]
 have hil : (i : Int) < T.length := by omega
 clear hi ht hc hT hO hcell hcc hK hnew hB1 hc1 q4 C4 q5 C5 hres hlt
 go_enter Tryd.func30, Tryd.ntmps30
 go_wp2
 clear hw1 v0 v1 v2 v3 v4 v5 b0
 have hund : undef = Value.tuple #[] := rfl
 refine wp_region_held (S := fun w' => ∃ p : Later w1, w' = p.wx) (by kernel_rfl) ?_
 change wpAnyH _ _ _ _ _ _ _ _ (World.drew _)
 ((refine takeQ (i := 0) (by rfl) (by kernel_rfl) (by kernel_rfl) (by kernel_rfl) ?_ ?_ ?_); (focus first | exact fun _ _ _ _ h => h | exact fun _ _ _ _ h => HPQ.out _ _ _ _ (by rfl) h); (focus exact ⟨⟨_, HLAT.out⟩, rfl⟩); intro K hK; go_simp; (with_reducible refine hK _ ?_); clear hK K)
 ((refine takeQ (i := 1) (by rfl) (by kernel_rfl) (by kernel_rfl) (by kernel_rfl) ?_ ?_ ?_); (focus first | exact fun _ _ _ _ h => h | exact fun _ _ _ _ h => HPQ.out _ _ _ _ (by rfl) h); (focus exact ⟨⟨_, HLAT.out⟩, rfl⟩); intro K hK; go_simp; (with_reducible refine hK _ ?_); clear hK K)
 ((refine takeQ (i := 2) (by rfl) (by kernel_rfl) (by kernel_rfl) (by kernel_rfl) ?_ ?_ ?_); (focus first | exact fun _ _ _ _ h => h | exact fun _ _ _ _ h => HPQ.out _ _ _ _ (by rfl) h); (focus exact ⟨⟨_, HLAT.out⟩, rfl⟩); intro K hK; go_simp; (with_reducible refine hK _ ?_); clear hK K)
 refine hall1 (i := 3) (by kernel_rfl) (by rfl) (fun K hK => ?_)
 go_simp
 refine (name_any t.f0 HTK.out.s _ (Kd.C_below HO.out (join_below HB1.out HLAT.out))).mono ?_
 rintro e u1 ⟨rfl, hd⟩
 have HU1 : Aside0 (Below w1.heap.size w1 u1) := ⟨join_below HLAT.out hd⟩
 clear hd
 refine hK _ _ ⟨⟨_, HU1.out⟩, rfl⟩ ?_
 clear hK K
 have hR := HR0.out
 unfold tokS at hR
 obtain ⟨bn, hbn⟩ : ∃ b, nameS t.f0 = b := ⟨_, rfl⟩
 rw [hbn] at hR
 rw [hbn]
 have HR1 := Aside0.mk hR
 clear hR HR0 hbn
 cases bn
 · have HRN : Aside0 (res = some 4) := ⟨HR1.out.symm⟩
   clear HR1
   ((refine takeQ (i := 4) (by rfl) (by kernel_rfl) (by kernel_rfl) (by kernel_rfl) ?_ ?_ ?_); (focus first | exact fun _ _ _ _ h => h | exact fun _ _ _ _ h => HPQ.out _ _ _ _ (by rfl) h); (focus exact ⟨⟨_, HU1.out⟩, rfl⟩); intro K hK; go_simp; (with_reducible refine hK _ ?_); clear hK K)
   ((refine takeQ (i := 5) (by rfl) (by kernel_rfl) (by kernel_rfl) (by kernel_rfl) ?_ ?_ ?_); (focus first | exact fun _ _ _ _ h => h | exact fun _ _ _ _ h => HPQ.out _ _ _ _ (by rfl) h); (focus exact ⟨⟨_, HU1.out⟩, rfl⟩); intro K hK; go_simp; (with_reducible refine hK _ ?_); clear hK K)
   ((refine takeQ (i := 6) (by rfl) (by kernel_rfl) (by kernel_rfl) (by kernel_rfl) ?_ ?_ ?_); (focus first | exact fun _ _ _ _ h => h | exact fun _ _ _ _ h => HPQ.out _ _ _ _ (by rfl) h); (focus exact ⟨⟨_, HU1.out⟩, rfl⟩); intro K hK; go_simp; (with_reducible refine hK _ ?_); clear hK K)
   ((refine takeQ (i := 7) (by rfl) (by kernel_rfl) (by kernel_rfl) (by kernel_rfl) ?_ ?_ ?_); (focus first | exact fun _ _ _ _ h => h | exact fun _ _ _ _ h => HPQ.out _ _ _ _ (by rfl) h); (focus exact ⟨⟨_, HU1.out⟩, rfl⟩); intro K hK; go_simp; (with_reducible refine hK _ ?_); clear hK K)
   ((refine takeQ (i := 8) (by rfl) (by kernel_rfl) (by kernel_rfl) (by kernel_rfl) ?_ ?_ ?_); (focus first | exact fun _ _ _ _ h => h | exact fun _ _ _ _ h => HPQ.out _ _ _ _ (by rfl) h); (focus exact ⟨⟨_, HU1.out⟩, rfl⟩); intro K hK; go_simp; (with_reducible refine hK _ ?_); clear hK K)
   ((refine takeQ (i := 9) (by rfl) (by kernel_rfl) (by kernel_rfl) (by kernel_rfl) ?_ ?_ ?_); (focus first | exact fun _ _ _ _ h => h | exact fun _ _ _ _ h => HPQ.out _ _ _ _ (by rfl) h); (focus exact ⟨⟨_, HU1.out⟩, rfl⟩); intro K hK; go_simp; (with_reducible refine hK _ ?_); clear hK K)
   ((refine takeQ (i := 10) (by rfl) (by kernel_rfl) (by kernel_rfl) (by kernel_rfl) ?_ ?_ ?_); (focus first | exact fun _ _ _ _ h => h | exact fun _ _ _ _ h => HPQ.out _ _ _ _ (by rfl) h); (focus exact ⟨⟨_, HU1.out⟩, rfl⟩); intro K hK; go_simp; (with_reducible refine hK _ ?_); clear hK K)
   ((refine takeQ (i := 11) (by rfl) (by kernel_rfl) (by kernel_rfl) (by kernel_rfl) ?_ ?_ ?_); (focus first | exact fun _ _ _ _ h => h | exact fun _ _ _ _ h => HPQ.out _ _ _ _ (by rfl) h); (focus exact ⟨⟨_, HU1.out⟩, rfl⟩); intro K hK; go_simp; (with_reducible refine hK _ ?_); clear hK K)
   ((refine takeQ (i := 12) (by rfl) (by kernel_rfl) (by kernel_rfl) (by kernel_rfl) ?_ ?_ ?_); (focus first | exact fun _ _ _ _ h => h | exact fun _ _ _ _ h => HPQ.out _ _ _ _ (by rfl) h); (focus exact ⟨⟨_, HU1.out⟩, rfl⟩); intro K hK; go_simp; (with_reducible refine hK _ ?_); clear hK K)
   ((refine takeQ (i := 13) (by rfl) (by kernel_rfl) (by kernel_rfl) (by kernel_rfl) ?_ ?_ ?_); (focus first | exact fun _ _ _ _ h => h | exact fun _ _ _ _ h => HPQ.out _ _ _ _ (by rfl) h); (focus exact ⟨⟨_, HU1.out⟩, rfl⟩); intro K hK; go_simp; (with_reducible refine hK _ ?_); clear hK K)
   ((refine takeQ (i := 14) (by rfl) (by kernel_rfl) (by kernel_rfl) (by kernel_rfl) ?_ ?_ ?_); (focus first | exact fun _ _ _ _ h => h | exact fun _ _ _ _ h => HPQ.out _ _ _ _ (by rfl) h); (focus exact ⟨⟨_, HU1.out⟩, rfl⟩); intro K hK; go_simp; (with_reducible refine hK _ ?_); clear hK K)
   refine hall1 (i := 15) (by kernel_rfl) (by rfl) (fun K hK => ?_)
   go_simp
   refine (must_no 4 (CourtAt.later HC.out (join_below HB1.out HU1.out))).mono ?_
   rintro e u2 ⟨rfl, hd⟩
   have HU2 : Aside0 (Below w1.heap.size w1 u2) := ⟨join_below HU1.out hd⟩
   clear hd hK
   go_wp2
   exact ⟨rfl, by rw [HRN.out]; exact CourtPost.bad (join_below HB1.out HU2.out)⟩
 · have HR2 : Aside0 ((if (findS T t.f0 0 == (i : Int)) = true then
    if (t.f1 == 0 || t.f1 == 1 || t.f1 == 2) = true then
     orS (classS t.f2) (if M t = true then if E t = false then none else some 11 else some 6)
    else some 5
    else some 4) = res) := ⟨HR1.out⟩
   clear HR1
   ((refine takeQ (i := 4) (by rfl) (by kernel_rfl) (by kernel_rfl) (by kernel_rfl) ?_ ?_ ?_); (focus first | exact fun _ _ _ _ h => h | exact fun _ _ _ _ h => HPQ.out _ _ _ _ (by rfl) h); (focus exact ⟨⟨_, HU1.out⟩, rfl⟩); intro K hK; go_simp; (with_reducible refine hK _ ?_); clear hK K)
   ((refine takeQ (i := 5) (by rfl) (by kernel_rfl) (by kernel_rfl) (by kernel_rfl) ?_ ?_ ?_); (focus first | exact fun _ _ _ _ h => h | exact fun _ _ _ _ h => HPQ.out _ _ _ _ (by rfl) h); (focus exact ⟨⟨_, HU1.out⟩, rfl⟩); intro K hK; go_simp; (with_reducible refine hK _ ?_); clear hK K)
   ((refine takeQ (i := 6) (by rfl) (by kernel_rfl) (by kernel_rfl) (by kernel_rfl) ?_ ?_ ?_); (focus first | exact fun _ _ _ _ h => h | exact fun _ _ _ _ h => HPQ.out _ _ _ _ (by rfl) h); (focus exact ⟨⟨_, HU1.out⟩, rfl⟩); intro K hK; go_simp; (with_reducible refine hK _ ?_); clear hK K)
   ((refine takeQ (i := 7) (by rfl) (by kernel_rfl) (by kernel_rfl) (by kernel_rfl) ?_ ?_ ?_); (focus first | exact fun _ _ _ _ h => h | exact fun _ _ _ _ h => HPQ.out _ _ _ _ (by rfl) h); (focus exact ⟨⟨_, HU1.out⟩, rfl⟩); intro K hK; go_simp; (with_reducible refine hK _ ?_); clear hK K)
   ((refine takeQ (i := 8) (by rfl) (by kernel_rfl) (by kernel_rfl) (by kernel_rfl) ?_ ?_ ?_); (focus first | exact fun _ _ _ _ h => h | exact fun _ _ _ _ h => HPQ.out _ _ _ _ (by rfl) h); (focus exact ⟨⟨_, HU1.out⟩, rfl⟩); intro K hK; go_simp; (with_reducible refine hK _ ?_); clear hK K)
   ((refine takeQ (i := 9) (by rfl) (by kernel_rfl) (by kernel_rfl) (by kernel_rfl) ?_ ?_ ?_); (focus first | exact fun _ _ _ _ h => h | exact fun _ _ _ _ h => HPQ.out _ _ _ _ (by rfl) h); (focus exact ⟨⟨_, HU1.out⟩, rfl⟩); intro K hK; go_simp; (with_reducible refine hK _ ?_); clear hK K)
   ((refine takeQ (i := 10) (by rfl) (by kernel_rfl) (by kernel_rfl) (by kernel_rfl) ?_ ?_ ?_); (focus first | exact fun _ _ _ _ h => h | exact fun _ _ _ _ h => HPQ.out _ _ _ _ (by rfl) h); (focus exact ⟨⟨_, HU1.out⟩, rfl⟩); intro K hK; go_simp; (with_reducible refine hK _ ?_); clear hK K)
   ((refine takeQ (i := 12) (by rfl) (by kernel_rfl) (by kernel_rfl) (by kernel_rfl) ?_ ?_ ?_); (focus first | exact fun _ _ _ _ h => h | exact fun _ _ _ _ h => HPQ.out _ _ _ _ (by rfl) h); (focus exact ⟨⟨_, HU1.out⟩, rfl⟩); intro K hK; go_simp; (with_reducible refine hK _ ?_); clear hK K)
   refine hall1 (i := 11) (by kernel_rfl) (by rfl) (fun K hK => ?_)
   go_simp
   refine (find_any T _ AR ct cr R.length t.f0 _ (Kd.C_below HT.out (join_below HB1.out HU1.out))).mono ?_
   rintro e u2 ⟨rfl, hd⟩
   have HU2 : Aside0 (Below w1.heap.size w1 u2) := ⟨join_below HU1.out hd⟩
   clear hd
   refine hK _ _ ⟨⟨_, HU2.out⟩, rfl⟩ ?_
   clear hK K HU1
   obtain ⟨bf, hbf⟩ : ∃ b, (findS T t.f0 0 == (i : Int)) = b := ⟨_, rfl⟩
   have hR := HR2.out
   rw [hbf] at hR
   have HR3 := Aside0.mk hR
   clear hR HR2
   generalize findS T t.f0 0 = fi at hbf
   ((refine takeQ (i := 13) (by rfl) (by kernel_rfl) (by kernel_rfl) (by kernel_rfl) ?_ ?_ ?_); (focus first | exact fun _ _ _ _ h => h | exact fun _ _ _ _ h => HPQ.out _ _ _ _ (by rfl) h); (focus exact ⟨⟨_, HU2.out⟩, rfl⟩); intro K hK; go_simp; (with_reducible refine hK _ ?_); clear hK K)
   ((refine takeQ (i := 14) (by rfl) (by kernel_rfl) (by kernel_rfl) (by kernel_rfl) ?_ ?_ ?_); (focus first | exact fun _ _ _ _ h => h | exact fun _ _ _ _ h => HPQ.out _ _ _ _ (by rfl) h); (focus exact ⟨⟨_, HU2.out⟩, rfl⟩); intro K hK; go_simp; (with_reducible refine hK _ ?_); clear hK K)
   cases bf
   · have HRN : Aside0 (res = some 4) := ⟨HR3.out.symm⟩
     clear HR3
     refine hall1 (i := 15) (by kernel_rfl) (by rfl) (fun K hK => ?_)
     go_simp
     refine (must_no 4 (CourtAt.later HC.out (join_below HB1.out HU2.out))).mono ?_
     rintro e u3 ⟨rfl, hd⟩
     have HU3 : Aside0 (Below w1.heap.size w1 u3) := ⟨join_below HU2.out hd⟩
     clear hd hK
     go_wp2
     exact ⟨rfl, by rw [HRN.out]; exact CourtPost.bad (join_below HB1.out HU3.out)⟩
   · have HR4 : Aside0 ((if (t.f1 == 0 || t.f1 == 1 || t.f1 == 2) = true then
      orS (classS t.f2) (if M t = true then if E t = false then none else some 11 else some 6)
       else some 5) = res) := ⟨HR3.out⟩
     clear HR3
     refine hall1 (i := 15) (by kernel_rfl) (by rfl) (fun K hK => ?_)
     go_simp
     refine (must_yes 4 (CourtAt.later HC.out (join_below HB1.out HU2.out))).mono ?_
     rintro e u3 ⟨rfl, hd⟩
     have HU3 : Aside0 (Below w1.heap.size w1 u3) := ⟨join_below HU2.out hd⟩
     clear hd
     refine hK _ _ ⟨⟨_, HU3.out⟩, rfl⟩ ?_
     clear hK K HU2
     refine wpAnyH_done (by kernel_rfl) ?_ _
     clear q0 qa qb hbf
     have hR := HR4.out
     clear HR4 hil
     have y1 : u3.cell? ⟨W.heap.size, 1, none⟩ = some (.int .i64 t.f1) := (blk_cell (blk_below HN.out HU3.out) 1).trans rfl
     have hk : (t.f1 == 0) = true ∨ ((t.f1 == 0) = false ∧ (t.f1 == 1) = true) ∨ ((t.f1 == 0) = false ∧ (t.f1 == 1) = false ∧ (t.f1 == 2) = true) ∨ ((t.f1 == 0) = false ∧ (t.f1 == 1) = false ∧ (t.f1 == 2) = false) := by
      cases (t.f1 == 0) <;> cases (t.f1 == 1) <;> cases (t.f1 == 2) <;> simp
     rcases hk with e1 | ⟨e1, e2⟩ | ⟨e1, e2, e3⟩ | ⟨e1, e2, e3⟩
     case inr.inr.inr =>
      rw [e1, e2, e3] at hR
      have HRN : Aside0 (res = some 5) := ⟨hR.symm⟩
      clear hR
      go_wp2_with fail
      refine (must_no 5 (CourtAt.later HC.out (join_below HB1.out HU3.out))).mono ?_
      rintro e u4 ⟨rfl, hd⟩
      have HU4 : Aside0 (Below w1.heap.size w1 u4) := ⟨join_below HU3.out hd⟩
      clear hd y1
      go_wp2
      exact ⟨rfl, by rw [HRN.out]; exact CourtPost.bad (join_below HB1.out HU4.out)⟩
     all_goals
      have HR5 : Aside0 (orS (classS t.f2) (if M t = true then if E t = false then none else some 11 else some 6) = res) := by
       refine ⟨?_⟩
       first | rw [e1, e2, e3] at hR | rw [e1, e2] at hR | rw [e1] at hR
       exact hR
      clear hR
      go_wp2_with fail
      refine (must_yes 5 (CourtAt.later HC.out (join_below HB1.out HU3.out))).mono ?_
      rintro e u4 ⟨rfl, hd⟩
      have HU4 : Aside0 (Below w1.heap.size w1 u4) := ⟨join_below HU3.out hd⟩
      clear hd y1 e1
      try clear e2
      try clear e3
      have y2 : u4.cell? ⟨W.heap.size, 2, none⟩ = some (.int .i64 t.f2) := (blk_cell (blk_below HN.out HU4.out) 2).trans rfl
      go_wp2_with fail
      refine (class_any bc _ T ct AR R cr wh t.f2 _ (CourtAt.later HC.out (join_below HB1.out HU4.out))).mono ?_
      rintro e u5 ⟨hd, he⟩
      have HU5 : Aside0 (Below w1.heap.size w1 u5) := ⟨join_below HU4.out hd⟩
      clear hd y2
      have hR := HR5.out
      clear HR5
      generalize classS t.f2 = r1 at he hR
      cases r1 with
      | some c =>
       have he' : e = .panicked [{ v := faultV c wh, recovered := false }] := he
       subst he'
       have HRN : Aside0 (res = some c) := ⟨hR.symm⟩
       clear he hR
       go_wp2
       exact ⟨rfl, by rw [HRN.out]; exact CourtPost.bad (join_below HB1.out HU5.out)⟩
      | none =>
       have he' : e = .returned (.tuple #[]) := he
       subst he'
       have HR6 : Aside0 ((if M t = true then if E t = false then none else some 11 else some 6) = res) := ⟨hR⟩
       clear he hR
       have hnew := blk_below HN.out HU5.out
       have y3 : u5.cell? ⟨W.heap.size, 3, none⟩ = some (.int .i64 t.f3.f0) := (blk_cell hnew 3).trans rfl
       have y4 : u5.cell? ⟨W.heap.size, 4, none⟩ = some (.slice A4 t.f3.f1.length c4) := (blk_cell hnew 4).trans rfl
       have y5 : u5.cell? ⟨W.heap.size, 5, none⟩ = some (.slice A5 t.f3.f2.length c5) := (blk_cell hnew 5).trans rfl
       clear hnew
       go_wp2_with fail
       refine (regex_May.calls t.f3.f0 A4 c4 t.f3.f1 A5 c5 t.f3.f2 (M t) _ (Kd.C_below HC4.out.2 (join_below HB1.out HU5.out)) HC4.out.1 (Kd.C_below HC5.out.2 (join_below HB1.out HU5.out)) HC5.out.1 HTK.out.m).mono ?_
       rintro e u6 ⟨rfl, hd⟩
       have HU6 : Aside0 (Below w1.heap.size w1 u6) := ⟨join_below HU5.out hd⟩
       clear hd y3 y4 y5
       have hR := HR6.out
       clear HR6
       obtain ⟨bm, hbm⟩ : ∃ b, M t = b := ⟨_, rfl⟩
       rw [hbm] at hR
       rw [hbm]
       have HM := Aside0.mk hbm
       clear hbm
       cases bm
       · have HRN : Aside0 (res = some 6) := ⟨hR.symm⟩
         clear hR
         go_wp2_with fail
         refine (must_no 6 (CourtAt.later HC.out (join_below HB1.out HU6.out))).mono ?_
         rintro e u7 ⟨rfl, hd⟩
         have HU7 : Aside0 (Below w1.heap.size w1 u7) := ⟨join_below HU6.out hd⟩
         clear hd
         go_wp2
         exact ⟨rfl, by rw [HRN.out]; exact CourtPost.bad (join_below HB1.out HU7.out)⟩
       · have HR7 : Aside0 ((if E t = false then none else some 11) = res) := ⟨hR⟩
         clear hR
         go_wp2_with fail
         refine (must_yes 6 (CourtAt.later HC.out (join_below HB1.out HU6.out))).mono ?_
         rintro e u7 ⟨rfl, hd⟩
         have HU7 : Aside0 (Below w1.heap.size w1 u7) := ⟨join_below HU6.out hd⟩
         clear hd
         obtain ⟨ke, hke⟩ := HTK.out.e HM.out
         have HKE := Aside0.mk hke
         have hnew := blk_below HN.out HU7.out
         have y3 : u7.cell? ⟨W.heap.size, 3, none⟩ = some (.int .i64 t.f3.f0) := (blk_cell hnew 3).trans rfl
         have y4 : u7.cell? ⟨W.heap.size, 4, none⟩ = some (.slice A4 t.f3.f1.length c4) := (blk_cell hnew 4).trans rfl
         have y5 : u7.cell? ⟨W.heap.size, 5, none⟩ = some (.slice A5 t.f3.f2.length c5) := (blk_cell hnew 5).trans rfl
         clear hnew hke
         go_wp2_with fail
         refine (regex_Empty.calls ke t.f3.f0 A4 c4 t.f3.f1 A5 c5 t.f3.f2 (E t) _ (Kd.C_below HC4.out.2 (join_below HB1.out HU7.out)) HC4.out.1 (Kd.C_below HC5.out.2 (join_below HB1.out HU7.out)) HC5.out.1 HKE.out).mono ?_
         rintro e u8 ⟨rfl, hd⟩
         have HU8 : Aside0 (Below w1.heap.size w1 u8) := ⟨join_below HU7.out hd⟩
         clear hd y3 y4 y5
         have hR := HR7.out
         clear HR7
         generalize E t = be at hR
         cases be
         · have HRN : Aside0 (res = none) := ⟨hR.symm⟩
           clear hR
           go_wp2_with fail
           refine (must_yes 11 (CourtAt.later HC.out (join_below HB1.out HU8.out))).mono ?_
           rintro e u9 ⟨rfl, hd⟩
           have HU9 : Aside0 (Below w1.heap.size w1 u9) := ⟨join_below HU8.out hd⟩
           clear hd
           go_wp2
           first | go_end0 | refine bodyPost_ret (results_none rfl _ _ _) rfl ?_
           rw [HRN.out]
           exact CourtPost.ok (join_below HB1.out HU9.out)
         · have HRN : Aside0 (res = some 11) := ⟨hR.symm⟩
           clear hR
           go_wp2_with fail
           refine (must_no 11 (CourtAt.later HC.out (join_below HB1.out HU8.out))).mono ?_
           rintro e u9 ⟨rfl, hd⟩
           have HU9 : Aside0 (Below w1.heap.size w1 u9) := ⟨join_below HU8.out hd⟩
           clear hd
           go_wp2
           exact ⟨rfl, by rw [HRN.out]; exact CourtPost.bad (join_below HB1.out HU9.out)⟩
end Go.Proofs.YthdfmbmbjpmlaaaDoor.Rn
end
section
set_option linter.unusedVariables false
set_option linter.unusedSimpArgs false
namespace Go.Proofs.YthdfmbmbjpmlaaaDoor.Rn
open Go Go.RowKit Go.Proofs.YthdfmbmbjpmlaaaDoorW.PrintWords Go.Proofs.YthdfmbmbjpmlaaaDoorW.PrintLast Go.Proofs.YthdfmbmbjpmlaaaDoorW.PrintMore
def orP (a b : Option (Int × Int)) : Option (Int × Int) := match a with | none => b | some c => some c
def toksS (M E : Tok → Bool) (T : List Tok) : Nat → List Tok → Option (Int × Int)
 | _, [] => none
 | i, t :: l => orP ((tokS M E T t i).map (fun c => (c, (i : Int)))) (toksS M E T (i + 1) l)
def rulesS (T : List Tok) : Nat → List Rul → Option (Int × Int)
 | _, [] => none
 | i, r :: l => orP ((ruleS T r).map (fun c => (c, (T.length : Int) + i))) (rulesS T (i + 1) l)
def lateS (T : List Tok) (R : List Rul) : Option (Int × Int) := if (R.length : Int) ≤ 8 then rulesS T 0 R else some (6, T.length)
def checkS (M E : Tok → Bool) (T : List Tok) (R : List Rul) : Option (Int × Int) :=
 if (1 : Int) ≤ T.length ∧ (T.length : Int) ≤ 16 then orP (toksS M E T 0 T) (lateS T R) else some (6, 0)
def ChkPost (res : Option (Int × Int)) (W : World) (e : Ending) (W' : World) : Prop :=
 Below W.heap.size W W' ∧ e = match res with | none => .returned (.tuple #[]) | some p => .panicked [{ v := faultV p.1 p.2, recovered := false }]
theorem ChkPost.ok {W W' : World} (h : Below W.heap.size W W') : ChkPost none W (.returned (.tuple #[])) W' := ⟨h, rfl⟩
theorem ChkPost.bad {W W' : World} {c n : Int} (h : Below W.heap.size W W') : ChkPost (some (c, n)) W (.panicked [{ v := faultV c n, recovered := false }]) W' := ⟨h, rfl⟩
theorem grown_set (w : World) (a : Addr) (u : Value) : w.grownBy (w.setCell a u) (some a.block) :=
 ⟨rfl, rfl, rfl, (KeepsWalks.setCell w _ u).size, fun k _ hk => Below.heap_setCell _ _ _ k (fun e => hk (by rw [e]))⟩
theorem court_put {W w' : World} {AT : Option Addr} {T : List Tok} {ct : Nat} {AR : Option Addr} {R : List Rul} {cr : Nat} {wh : Int} (hB : Below W.heap.size W w') (h : CourtAt W.heap.size AT T ct AR R cr wh w') (n : Int) :
 Below W.heap.size W (w'.setCell ⟨W.heap.size, 2, none⟩ (.int .i64 n)) ∧ CourtAt W.heap.size AT T ct AR R cr n (w'.setCell ⟨W.heap.size, 2, none⟩ (.int .i64 n)) :=
 ⟨Below.grown hB (grown_set _ _ _) hB.size (fun k hk => by obtain rfl := Option.some.inj hk; exact Nat.le_refl _), blk_put h 2 _ rfl⟩
theorem court_where {bc : Nat} {w' : World} {AT : Option Addr} {T : List Tok} {ct : Nat} {AR : Option Addr} {R : List Rul} {cr : Nat} {wh : Int} (h : CourtAt bc AT T ct AR R cr wh w') :
 w'.cell? ⟨bc, 2, none⟩ = some (.int .i64 wh) ∧ w'.frozen? ⟨bc, 2, none⟩ = false := ⟨(blk_cell h 2).trans rfl, blk_frozen h 2⟩
set_option maxHeartbeats 4000000 in
set_option maxRecDepth 100000 in
theorem check_work (M E : Tok → Bool) (T : List Tok) (R : List Rul) (hM : ∀ t, t ∈ T → TokOk M E t) (bg : Nat) (AT : Option Addr) (ct : Nat) (AR : Option Addr) (cr : Nat) (W : World) (hg : W.heap[bg]? = some (.cells #[.slice AT T.length ct, .slice AR R.length cr] 26 (0, 0))) (hT : kTok.C W AT T.length T) (hR : kRul.C W AR R.length R) (hO : OwnAt W) :
 Calls Tryd.prog 28 #[.pointer (some ⟨bg, 0, none⟩)] W (ChkPost (checkS M E T R) W) := by
 have hlT : T.length ≤ 9223372036854775807 := hT.2.1
 have hlR : R.length ≤ 9223372036854775807 := hR.2.1
 obtain ⟨w1, hw1⟩ : ∃ w1, W.alloc (.cells #[.slice AT T.length ct, .slice AR R.length cr, .int .i64 0] 71) = w1 := ⟨_, rfl⟩
 have hnew : CourtAt W.heap.size AT T ct AR R cr 0 w1 := by rw [← hw1]; exact blk_new _ _
 have HB1 : Aside0 (Below W.heap.size W w1) := ⟨hw1 ▸ below1 W _⟩
 have g0 : W.cell? ⟨bg, 0, none⟩ = some (.slice AT T.length ct) := (blk_cell hg 0).trans rfl
 have g1 : W.cell? ⟨bg, 1, none⟩ = some (.slice AR R.length cr) := (blk_cell hg 1).trans rfl
 have HG : Aside0 (∀ W', Below W.heap.size W W' → W'.cell? ⟨bg, 0, none⟩ = some (.slice AT T.length ct) ∧ W'.cell? ⟨bg, 1, none⟩ = some (.slice AR R.length cr)) := ⟨fun W' hb => ⟨cell_after hb g0, cell_after hb g1⟩⟩
 have y0 := (HG.out _ HB1.out).1
 have hbl : bg < W.heap.size := blk_lt hg
 have hbne : bg ≠ W.heap.size := by omega
 have HC := Aside0.mk hnew
 have HT := Aside0.mk hT
 have HRR := Aside0.mk hR
 have HO := Aside0.mk hO
 have HM := Aside0.mk hM
 obtain ⟨res, hres⟩ : ∃ res, checkS M E T R = res := ⟨_, rfl⟩
 rw [hres]
 unfold checkS at hres
 have HR0 := Aside0.mk hres
 clear hres hnew hT hR hO hM hg hbl
 by_cases c1 : (1 : Int) ≤ T.length
 · by_cases c2 : (T.length : Int) ≤ 16
   · have HR1 : Aside0 (orP (toksS M E T 0 (T.drop 0)) (lateS T R) = res) := ⟨by rw [← HR0.out, if_pos ⟨c1, c2⟩]; rfl⟩
     clear HR0
     go_enter Tryd.func28, Tryd.ntmps28
     go_wp2_with fail
     refine (must_yes 6 HC.out).mono ?_
     rintro e w2 ⟨rfl, hb⟩
     have HB2 := Aside0.mk (join_below HB1.out hb)
     have HC2 := Aside0.mk (CourtAt.later HC.out hb)
     clear hb HC y0 g0 g1 hw1
     have y0 := (HG.out _ HB2.out).1
     go_wp2
     go_loopw [23] (fun i w' => ∃ k : Nat, i = .int .i64 k ∧ k ≤ T.length ∧ Aside0 (orP (toksS M E T k (T.drop k)) (lateS T R) = res) ∧ Aside0 (Below W.heap.size W w' ∧ ∃ wh, CourtAt W.heap.size AT T ct AR R cr wh w')) (fun i _ => T.length - (intOf i).toNat)
     case atStart => exact ⟨0, rfl, Nat.zero_le _, HR1, ⟨HB2.out, _, HC2.out⟩⟩
     case round =>
      obtain ⟨k, rfl, hkl, HI, HW⟩ := hrel
      obtain ⟨⟨hb, wh, hct⟩⟩ := HW
      clear y0 HC2 HB2 HR1
      by_cases hlt : k < T.length
      · obtain ⟨t, ht⟩ : ∃ t, T[k]? = some t := ⟨_, List.getElem?_eq_getElem hlt⟩
        have hdk : T.drop k = t :: T.drop (k + 1) := by
         rw [List.drop_eq_getElem_cons hlt]
         rw [List.getElem?_eq_getElem hlt] at ht
         rw [Option.some.inj ht]
        have hI := HI.out
        rw [hdk, toksS] at hI
        have HI2 := Aside0.mk hI
        have yw := court_where hct
        obtain ⟨yw1, yw2⟩ := yw
        have HP := Aside0.mk (court_put hb hct k)
        have HTT := Aside0.mk (And.intro ht (HM.out t (List.mem_of_getElem? ht)))
        clear hb hct hI HI hdk ht
        go_wp2_with fail
        refine (token_any M E T k t HTT.out.1 HTT.out.2 W.heap.size AT ct AR R cr k _ HP.out.2 (Kd.C_below HT.out HP.out.1) (Kd.C_below HO.out HP.out.1)).mono ?_
        rintro e w3 ⟨hb3, he⟩
        have HB3 := Aside0.mk (join_below HP.out.1 hb3)
        have HC3 := Aside0.mk (CourtAt.later HP.out.2 hb3)
        clear hb3
        have hI := HI2.out
        clear HI2 yw1 yw2
        generalize tokS M E T t k = r1 at he hI
        cases r1 with
        | some c =>
         have he' : e = .panicked [{ v := faultV c k, recovered := false }] := he
         subst he'
         have HRN : Aside0 (res = some (c, (k : Int))) := ⟨hI.symm⟩
         clear he hI
         go_wp2
         exact ⟨rfl, by rw [HRN.out]; exact ChkPost.bad HB3.out⟩
        | none =>
         have he' : e = .returned (.tuple #[]) := he
         subst he'
         have HI3 : Aside0 (orP (toksS M E T (k + 1) (T.drop (k + 1))) (lateS T R) = res) := ⟨hI⟩
         clear he hI
         go_wp2
         go_roundw
         case rel => exact ⟨k + 1, by go_num, by omega, HI3, ⟨HB3.out, _, HC3.out⟩⟩
         case measure => simp [intOf]; omega
      · have e : k = T.length := by omega
        have hI := HI.out
        rw [e, List.drop_length, toksS] at hI
        have HI2 : Aside0 (lateS T R = res) := ⟨hI⟩
        have yw := court_where hct
        obtain ⟨yw1, yw2⟩ := yw
        have HP := Aside0.mk (court_put hb hct T.length)
        have y0 := (HG.out _ hb).1
        have gg := HG.out _ HP.out.1
        obtain ⟨gg0, gg1⟩ := gg
        clear hb hct hI HI e hkl
        by_cases c3 : (R.length : Int) ≤ 8
        · have HI3 : Aside0 (rulesS T 0 (R.drop 0) = res) := ⟨by rw [← HI2.out, lateS, if_pos c3]; rfl⟩
          clear HI2
          go_wp2_with fail
          refine (must_yes 6 HP.out.2).mono ?_
          rintro e w3 ⟨rfl, hb3⟩
          have HB3 := Aside0.mk (join_below HP.out.1 hb3)
          have HC3 := Aside0.mk (CourtAt.later HP.out.2 hb3)
          clear hb3 yw1 yw2 y0 gg0 gg1
          have gg := HG.out _ HB3.out
          obtain ⟨gg0, gg1⟩ := gg
          go_wp2
          go_loopw [49] (fun i w' => ∃ k : Nat, i = .int .i64 k ∧ k ≤ R.length ∧ Aside0 (rulesS T k (R.drop k) = res) ∧ Aside0 (Below W.heap.size W w' ∧ ∃ wh, CourtAt W.heap.size AT T ct AR R cr wh w')) (fun i _ => R.length - (intOf i).toNat)
          case atStart => exact ⟨0, rfl, Nat.zero_le _, HI3, ⟨HB3.out, _, HC3.out⟩⟩
          case round =>
           clear gg0 gg1 HI3 HB3 HC3
           obtain ⟨k2, rfl, hkl2, HI, HW⟩ := hrel
           obtain ⟨⟨hb, wh2, hct⟩⟩ := HW
           by_cases hlt2 : k2 < R.length
           · obtain ⟨g, o, rfl, hgl, hcell⟩ := row_cells HRR.out (by omega) (by decide)
             obtain ⟨r, hr⟩ : ∃ r, R[k2]? = some r := ⟨_, List.getElem?_eq_getElem hlt2⟩
             obtain ⟨cs, _, hKr, hcc⟩ := hcell k2 r hr
             have HKr := Aside0.mk hKr
             obtain ⟨D2, d2, rfl, _, _⟩ := k32_open hKr
             have v0 := cell_after hb (hcc 0 (.int .i64 r.f0) rfl)
             have v1 := cell_after hb (hcc 1 (.bool r.f1) rfl)
             have v2 := cell_after hb (hcc 2 (.slice D2 r.f2.length d2) rfl)
             rw [Nat.add_zero] at v0
             simp only [show kRul.sz = 3 from rfl] at v0 v1 v2
             have hdk : R.drop k2 = r :: R.drop (k2 + 1) := by
              rw [List.drop_eq_getElem_cons hlt2]
              rw [List.getElem?_eq_getElem hlt2] at hr
              rw [Option.some.inj hr]
             have hI := HI.out
             rw [hdk, rulesS] at hI
             have HI2 := Aside0.mk hI
             obtain ⟨wa, hwa⟩ : ∃ wa, wr.alloc (.cells #[.int .i64 r.f0, .bool r.f1, .slice D2 r.f2.length d2] 32) = wa := ⟨_, rfl⟩
             have hnw : wa.heap[wr.heap.size]? = some (.cells #[.int .i64 r.f0, .bool r.f1, .slice D2 r.f2.length d2] 32 (0, 0)) := by rw [← hwa]; exact blk_new _ _
             have hba : Below W.heap.size W wa := hwa ▸ below_alloc hb _
             have hcta : CourtAt W.heap.size AT T ct (some ⟨g, o, none⟩) R cr wh2 wa := by rw [← hwa]; exact blk_alloc hct _
             have hne : wr.heap.size ≠ W.heap.size := Nat.ne_of_gt (blk_lt hct)
             have y0 := (HG.out _ hba).1
             have yw := court_where hcta
             obtain ⟨yw1, yw2⟩ := yw
             obtain ⟨ws, hws⟩ : ∃ ws, wa.setCell ⟨W.heap.size, 2, none⟩ (.int .i64 ((T.length : Int) + k2)) = ws := ⟨_, rfl⟩
             have hP := court_put hba hcta ((T.length : Int) + k2)
             have hnws : ws.heap[wr.heap.size]? = some (.cells #[.int .i64 r.f0, .bool r.f1, .slice D2 r.f2.length d2] 32 (0, 0)) := by rw [← hws]; exact blk_far hnw hne _
             rw [hws] at hP
             have HP := Aside0.mk hP
             have x0 : ws.cell? ⟨wr.heap.size, 0, none⟩ = some (.int .i64 r.f0) := (blk_cell hnws 0).trans rfl
             have x1 : ws.cell? ⟨wr.heap.size, 1, none⟩ = some (.bool r.f1) := (blk_cell hnws 1).trans rfl
             have x2 : ws.cell? ⟨wr.heap.size, 2, none⟩ = some (.slice D2 r.f2.length d2) := (blk_cell hnws 2).trans rfl
             clear hP hnws hnw hba hcta hct hb hI HI hr hdk hcell hcc hKr hne
             go_wp2_with fail
             refine (rule_any T r W.heap.size AT ct _ R cr ((T.length : Int) + k2) W _ _ HP.out.1 HP.out.2 (Kd.C_below HT.out HP.out.1) HKr.out).mono ?_
             rintro e w4 ⟨hb4, he⟩
             have HB4 := Aside0.mk (join_below HP.out.1 hb4)
             have HC4 := Aside0.mk (CourtAt.later HP.out.2 hb4)
             clear hb4 x0 x1 x2 yw1 yw2 y0 v0 v1 v2
             have hI := HI2.out
             clear HI2 hwa hws
             generalize ruleS T r = r1 at he hI
             cases r1 with
             | some c =>
              have he' : e = .panicked [{ v := faultV c ((T.length : Int) + k2), recovered := false }] := he
              subst he'
              have HRN : Aside0 (res = some (c, (T.length : Int) + k2)) := ⟨hI.symm⟩
              clear he hI
              go_wp2
              exact ⟨rfl, by rw [HRN.out]; exact ChkPost.bad HB4.out⟩
             | none =>
              have he' : e = .returned (.tuple #[]) := he
              subst he'
              have HI3 : Aside0 (rulesS T (k2 + 1) (R.drop (k2 + 1)) = res) := ⟨hI⟩
              clear he hI
              go_wp2
              go_roundw
              case rel => exact ⟨k2 + 1, by go_num, by omega, HI3, ⟨HB4.out, _, HC4.out⟩⟩
              case measure => simp [intOf]; omega
           · have e : k2 = R.length := by omega
             have HQ : Aside0 (res = none) := ⟨by rw [← HI.out, e, List.drop_length]; rfl⟩
             have HBB := Aside0.mk hb
             clear e hb
             go_wp2
             first | go_end0 | refine bodyPost_ret (results_none rfl _ _ _) rfl ?_
             rw [HQ.out]
             exact ChkPost.ok HBB.out
        · have d3 : decide ((R.length : Int) ≤ 8) = false := decide_eq_false c3
          have HRN : Aside0 (res = some (6, (T.length : Int))) := ⟨by rw [← HI2.out, lateS, if_neg c3]⟩
          clear HI2 c3
          go_wp2_with fail
          refine (must_no 6 HP.out.2).mono ?_
          rintro e w3 ⟨rfl, hb3⟩
          have HB3 := Aside0.mk (join_below HP.out.1 hb3)
          clear hb3 yw1 yw2 y0 gg0 gg1
          go_wp2
          exact ⟨rfl, by rw [HRN.out]; exact ChkPost.bad HB3.out⟩
   · have d2 : decide ((T.length : Int) ≤ 16) = false := decide_eq_false c2
     have HRN : Aside0 (res = some (6, 0)) := ⟨by rw [← HR0.out, if_neg (fun h => c2 h.2)]⟩
     clear HR0 c2
     go_enter Tryd.func28, Tryd.ntmps28
     go_wp2_with fail
     refine (must_no 6 HC.out).mono ?_
     rintro e w2 ⟨rfl, hb⟩
     have HB2 := Aside0.mk (join_below HB1.out hb)
     clear hb y0
     go_wp2
     exact ⟨rfl, by rw [HRN.out]; exact ChkPost.bad HB2.out⟩
 · have d1 : decide ((1 : Int) ≤ T.length) = false := decide_eq_false c1
   have HRN : Aside0 (res = some (6, 0)) := ⟨by rw [← HR0.out, if_neg (fun h => c1 h.1)]⟩
   clear HR0 c1
   go_enter Tryd.func28, Tryd.ntmps28
   go_wp2_with fail
   refine (must_no 6 HC.out).mono ?_
   rintro e w2 ⟨rfl, hb⟩
   have HB2 := Aside0.mk (join_below HB1.out hb)
   clear hb y0
   go_wp2
   exact ⟨rfl, by rw [HRN.out]; exact ChkPost.bad HB2.out⟩
end Go.Proofs.YthdfmbmbjpmlaaaDoor.Rn
end
section
set_option linter.unusedVariables false
set_option linter.unusedSimpArgs false
namespace Go.Proofs.YthdfmbmbjpmlaaaDoor.Rn
open Go Go.RowKit Go.Proofs.YthdfmbmbjpmlaaaDoorW.PrintWords Go.Proofs.YthdfmbmbjpmlaaaDoorW.PrintLast Go.Proofs.YthdfmbmbjpmlaaaDoorW.PrintMore
theorem assert_fault (v : Value) (s : TypeId) (w : World) : (Instr.typeAssert (.iface 67 v) s 67 true).run Tryd.prog w = .ok (.tuple #[v, .bool true]) w := by
 simp [Instr.typeAssert, run_underlying Tryd.underlying67]
theorem makeFunc_run (fn : Fn) (first cap : Array Value) (w : World) : (Instr.makeFunc fn first cap).run Tryd.prog w = .ok (.func fn first cap) w := rfl
def caughtW (w : World) (b : Nat) (c n : Int) : World := ((w.setCell ⟨b, 0, none⟩ (.int .i64 c)).setCell ⟨b, 1, none⟩ (.int .i64 n)).alloc (.cells #[.int .i64 c, .int .i64 n] 67)
set_option maxHeartbeats 400000 in
theorem catch_panicking (b : Nat) (x y c n : Int) (older : List PanicEntry) (w : World) (hb : w.heap[b]? = some (.cells #[.int .i64 x, .int .i64 y] 67 (0, 0))) :
 CallsD Tryd.prog 41 #[.pointer (some ⟨b, 0, none⟩)] (.panicking ({ v := faultV c n, recovered := false } :: older)) w fun e u' w' =>
  e = .returned (.tuple #[]) ∧ u' = .panicking ({ v := faultV c n, recovered := true } :: older) ∧ w' = caughtW w b c n := by
 have hta := assert_fault
 have hlt := blk_lt hb
 have hne : w.heap.size ≠ b := by omega
 have hc : ∀ o, (w.alloc o).cell? ⟨b, 0, none⟩ = some (.int .i64 x) := fun o => (blk_cell (blk_alloc hb o) 0).trans rfl
 have hc1 : ∀ o, (w.alloc o).cell? ⟨b, 1, none⟩ = some (.int .i64 y) := fun o => (blk_cell (blk_alloc hb o) 1).trans rfl
 have hz : ∀ o, (w.alloc o).frozen? ⟨b, 0, none⟩ = false := fun o => blk_frozen (blk_alloc hb o) 0
 have hz1 : ∀ o, (w.alloc o).frozen? ⟨b, 1, none⟩ = false := fun o => blk_frozen (blk_alloc hb o) 1
 have hb2 := blk_put hb 0 (.int .i64 c) rfl
 have hc2 : ∀ o, ((w.setCell ⟨b, 0, none⟩ (.int .i64 c)).alloc o).cell? ⟨b, 1, none⟩ = some (.int .i64 y) := fun o => (blk_cell (blk_alloc hb2 o) 1).trans rfl
 have hz2 : ∀ o, ((w.setCell ⟨b, 0, none⟩ (.int .i64 c)).alloc o).frozen? ⟨b, 1, none⟩ = false := fun o => blk_frozen (blk_alloc hb2 o) 1
 clear hb hb2
 refine callsD_of_wpS Tryd.func41 rfl fun c₀ cs hu => ?_
 apply wpS_seq
 apply wpS_region
 simp [wpOpsS, go_sem, recoverD, hu, Tryd.ntmps41, Exit.thenS, faultV]
 change Code.wpS _ _ _ ⟨#[.pointer (some ⟨b, 0, none⟩), .iface 67 (.agg #[.int .i64 c, .int .i64 n]), undef, undef, .iface 67 (.agg #[.int .i64 c, .int .i64 n]), undef, undef, undef, undef, undef, undef, undef, undef, undef, undef, undef], []⟩ _ _
 refine wpS_of_wp ?_
 go_wp2
 simp [bodyPostS, results, Tryd.results41, caughtW]
theorem catch_idle (p : Addr) (w : World) :
 CallsD Tryd.prog 41 #[.pointer (some p)] .returning w fun e u' w' => e = .returned (.tuple #[]) ∧ u' = .returning ∧ w' = w := by
 refine callsD_of_wpS Tryd.func41 rfl fun c₀ cs hu => ?_
 apply wpS_seq
 apply wpS_region
 simp [wpOpsS, go_sem, recoverD, hu, Tryd.ntmps41, Exit.thenS]
 change Code.wpS _ _ _ ⟨#[.pointer (some p), .nilIface, undef, undef, .nilIface, undef, undef, undef, undef, undef, undef, undef, undef, undef, undef, undef], []⟩ _ _
 refine wpS_of_wp ?_
 go_wp2
 cases c₀
 simp_all [bodyPostS, results, Tryd.results41]
def codeOf (res : Option (Int × Int)) : Int × Int := match res with | none => (0, 0) | some p => p
set_option maxHeartbeats 1000000 in
set_option maxRecDepth 100000 in
theorem caught_any (M E : Tok → Bool) (T : List Tok) (R : List Rul) (hM : ∀ t, t ∈ T → TokOk M E t) (bg : Nat) (AT : Option Addr) (ct : Nat) (AR : Option Addr) (cr : Nat) (W : World) (hg : W.heap[bg]? = some (.cells #[.slice AT T.length ct, .slice AR R.length cr] 26 (0, 0))) (hT : kTok.C W AT T.length T) (hR : kRul.C W AR R.length R) (hO : OwnAt W) :
 Calls Tryd.prog 27 #[.func (.func 28) #[] #[.pointer (some ⟨bg, 0, none⟩)]] W fun e W' => e = .returned (.agg #[.int .i64 (codeOf (checkS M E T R)).1, .int .i64 (codeOf (checkS M E T R)).2]) ∧ Below W.heap.size W W' := by
 have hmf := makeFunc_run
 have hgo := fun o => check_work M E T R hM bg AT ct AR cr (W.alloc o) (blk_alloc hg o) (Kd.C_below hT (below1 W o)) (Kd.C_below hR (below1 W o)) (Kd.C_below hO (below1 W o))
 have HGO := Aside0.mk hgo
 clear hgo hM hg hT hR hO
 generalize checkS M E T R = res at HGO
 cases res with
 | some p =>
  obtain ⟨c, n⟩ := p
  go_enter_defers Tryd.func27, Tryd.ntmps27
  go_wp2_with fail
  refine (HGO.out _).mono ?_
  rintro e w2 ⟨hb, he⟩
  have he' : e = .panicked [{ v := faultV c n, recovered := false }] := he
  subst he'
  have hbx : w2.heap[W.heap.size]? = some (.cells #[.int .i64 0, .int .i64 0] 67 (0, 0)) := (hb.block _ (by simp)).trans (blk_new W _)
  have HB := Aside0.mk (join_below (below1 W _) hb)
  clear he hb
  go_wp2
  refine leaves_cons (f := 41) (args := #[.pointer (some ⟨W.heap.size, 0, none⟩)]) (by simp) (by simp [go_sem]) ?_
  refine (catch_panicking W.heap.size 0 0 c n [] _ hbx).mono ?_
  rintro e u' w'' ⟨rfl, rfl, rfl⟩
  have hput := blk_alloc (blk_put (blk_put hbx 0 (.int .i64 c) rfl) 1 (.int .i64 n) rfl) (.cells #[.int .i64 c, .int .i64 n] 67)
  have hc0 : (caughtW w2 W.heap.size c n).cell? ⟨W.heap.size, 0, none⟩ = some (.int .i64 c) := (blk_cell hput 0).trans rfl
  have hc1 : (caughtW w2 W.heap.size c n).cell? ⟨W.heap.size, 1, none⟩ = some (.int .i64 n) := (blk_cell hput 1).trans rfl
  have hfin : Below W.heap.size W (caughtW w2 W.heap.size c n) := below_alloc ((HB.out.setCell (Nat.le_refl _) _).setCell (Nat.le_refl _) _) _
  simp [Leaves, settle, results, Tryd.results27, go_sem, hc0, hc1, hfin, codeOf]
 | none =>
  go_enter_defers Tryd.func27, Tryd.ntmps27
  go_wp2_with fail
  refine (HGO.out _).mono ?_
  rintro e w2 ⟨hb, he⟩
  have he' : e = .returned (.tuple #[]) := he
  subst he'
  have hbx : w2.heap[W.heap.size]? = some (.cells #[.int .i64 0, .int .i64 0] 67 (0, 0)) := (hb.block _ (by simp)).trans (blk_new W _)
  have HB := Aside0.mk (join_below (below1 W _) hb)
  clear he hb
  have ce0 : w2.cell? ⟨W.heap.size, 0, none⟩ = some (.int .i64 0) := (blk_cell hbx 0).trans rfl
  have ce1 : w2.cell? ⟨W.heap.size, 1, none⟩ = some (.int .i64 0) := (blk_cell hbx 1).trans rfl
  have fr0 := blk_frozen hbx 0
  have fr1 := blk_frozen hbx 1
  have hb2 := blk_put hbx 0 (.int .i64 0) rfl
  have ce2 : (w2.setCell ⟨W.heap.size, 0, none⟩ (.int .i64 0)).cell? ⟨W.heap.size, 1, none⟩ = some (.int .i64 0) := (blk_cell hb2 1).trans rfl
  have fr2 := blk_frozen hb2 1
  have hb3 := blk_put hb2 1 (.int .i64 0) rfl
  have HB3 := Aside0.mk hb3
  clear hb2 hb3
  go_wp2
  refine leaves_cons (f := 41) (args := #[.pointer (some ⟨W.heap.size, 0, none⟩)]) (by simp) (by simp [go_sem]) ?_
  refine (catch_idle ⟨W.heap.size, 0, none⟩ _).mono ?_
  rintro e u' w'' ⟨rfl, rfl, rfl⟩
  have hc0 : ((w2.setCell ⟨W.heap.size, 0, none⟩ (.int .i64 0)).setCell ⟨W.heap.size, 1, none⟩ (.int .i64 0)).cell? ⟨W.heap.size, 0, none⟩ = some (.int .i64 0) := (blk_cell HB3.out 0).trans rfl
  have hc1 : ((w2.setCell ⟨W.heap.size, 0, none⟩ (.int .i64 0)).setCell ⟨W.heap.size, 1, none⟩ (.int .i64 0)).cell? ⟨W.heap.size, 1, none⟩ = some (.int .i64 0) := (blk_cell HB3.out 1).trans rfl
  have hfin : Below W.heap.size W ((w2.setCell ⟨W.heap.size, 0, none⟩ (.int .i64 0)).setCell ⟨W.heap.size, 1, none⟩ (.int .i64 0)) := (HB.out.setCell (Nat.le_refl _) _).setCell (Nat.le_refl _) _
  simp [Leaves, settle, results, Tryd.results27, go_sem, hc0, hc1, hfin, codeOf]
set_option maxHeartbeats 1000000 in
set_option maxRecDepth 100000 in
theorem check_any (M E : Tok → Bool) (T : List Tok) (R : List Rul) (hM : ∀ t, t ∈ T → TokOk M E t) (AT : Option Addr) (ct : Nat) (AR : Option Addr) (cr : Nat) (W : World) (hT : kTok.C W AT T.length T) (hR : kRul.C W AR R.length R) (hO : OwnAt W) :
 Calls Tryd.prog 15 #[.agg #[.slice AT T.length ct, .slice AR R.length cr]] W fun e W' => e = .returned (.tuple #[.int .i64 (codeOf (checkS M E T R)).1, .int .i64 (codeOf (checkS M E T R)).2]) ∧ Below W.heap.size W W' := by
 have hmf := makeFunc_run
 have hgo := caught_any M E T R hM W.heap.size AT ct AR cr (W.alloc (.cells #[.slice AT T.length ct, .slice AR R.length cr] 26)) (blk_new W _) (Kd.C_below hT (below1 W _)) (Kd.C_below hR (below1 W _)) (Kd.C_below hO (below1 W _))
 generalize codeOf (checkS M E T R) = p at hgo
 obtain ⟨c, n⟩ := p
 have HGO := Aside0.mk hgo
 clear hgo hM hT hR hO
 go_enter Tryd.func15, Tryd.ntmps15
 go_wp2_with fail
 refine HGO.out.mono ?_
 rintro e w2 ⟨rfl, hb⟩
 have HB := Aside0.mk (join_below (below1 W _) hb)
 clear hb
 go_wp2
 go_quiet (fail)
 go_wp2
 refine bodyPost_ret (results_tmp2 rfl _ _ _) rfl ?_
 exact ⟨rfl, pw_below_drewN (below_alloc HB.out _) nq⟩
end Go.Proofs.YthdfmbmbjpmlaaaDoor.Rn
end
section
set_option linter.unusedVariables false
set_option linter.unusedSimpArgs false
namespace Go.Proofs.YthdfmbmbjpmlaaaDoor.Rn
open Go Go.RowKit Go.Proofs.YthdfmbmbjpmlaaaDoorW.PrintWords Go.Proofs.YthdfmbmbjpmlaaaDoorW.PrintLast Go.Proofs.YthdfmbmbjpmlaaaDoorW.PrintMore
theorem chk_of (T : List Tok) (R : List Rul) (c n : Int) (hT : ∀ t, t ∈ T → TokOk (fun _ => true) (fun _ => false) t) (h : codeOf (checkS (fun _ => true) (fun _ => false) T R) = (c, n)) : ChkC T R c n := fun AT ct AR cr W h1 h2 h3 => by
 refine (check_any (fun _ => true) (fun _ => false) T R hT AT ct AR cr W h1 h2 h3).mono ?_
 rintro e w ⟨rfl, hb⟩
 rw [h]
 exact ⟨rfl, hb⟩
theorem ok_set (s : ByteArray) (a b : Int) (l : List S56) (hs : s.size ≤ 9223372036854775807) (hm : regex_May.f 2 l [] = some true) (he : ∃ k, regex_Empty.f k 2 l [] = some false) : TokOk (fun _ => true) (fun _ => false) ⟨s, a, b, ⟨2, l, []⟩⟩ := ⟨hs, hm, fun _ => he⟩
theorem may_97 : regex_May.f 2 [⟨97, 97⟩] [] = some true := by kernel_rfl
theorem may_99 : regex_May.f 2 [⟨99, 99⟩] [] = some true := by kernel_rfl
theorem may_100 : regex_May.f 2 [⟨100, 100⟩] [] = some true := by kernel_rfl
theorem may_b : regex_May.f 2 [⟨10, 10⟩, ⟨98, 98⟩] [] = some true := by kernel_rfl
theorem emp_97 : regex_Empty.f 9 2 [⟨97, 97⟩] [] = some false := by kernel_rfl
theorem emp_99 : regex_Empty.f 9 2 [⟨99, 99⟩] [] = some false := by kernel_rfl
theorem emp_100 : regex_Empty.f 9 2 [⟨100, 100⟩] [] = some false := by kernel_rfl
theorem emp_b : regex_Empty.f 9 2 [⟨10, 10⟩, ⟨98, 98⟩] [] = some false := by kernel_rfl
theorem made_ok (t : Tok) (h : t ∈ madeT) : TokOk (fun _ => true) (fun _ => false) t := by
 simp only [madeT, oneT, List.mem_cons, List.not_mem_nil, or_false] at h
 rcases h with rfl | rfl | rfl | rfl
 · exact ok_set _ _ _ _ (by decide) may_97 ⟨_, emp_97⟩
 · exact ok_set _ _ _ _ (by decide) may_b ⟨_, emp_b⟩
 · exact ok_set _ _ _ _ (by decide) may_99 ⟨_, emp_99⟩
 · exact ok_set _ _ _ _ (by decide) may_100 ⟨_, emp_100⟩
theorem chk_none : ChkC [] [] 6 0 := chk_of [] [] 6 0 (fun t h => by simp at h) (by kernel_rfl)
theorem chk_made : ChkC madeT [] 0 0 := chk_of madeT [] 0 0 made_ok (by kernel_rfl)
theorem chk_twice : ChkC twiceT [] 4 4 := chk_of twiceT [] 4 4 (fun t h => by
 rcases List.mem_append.1 h with h | h
 · exact made_ok t h
 · obtain rfl := List.mem_singleton.1 h
   exact ok_set _ _ _ _ (by decide) may_97 ⟨_, emp_97⟩) (by kernel_rfl)
end Go.Proofs.YthdfmbmbjpmlaaaDoor.Rn
end
section
set_option linter.unusedVariables false
set_option linter.unusedSimpArgs false
namespace Go.Proofs.YthdfmbmbjpmlaaaDoor.Rn
open Go Go.RowKit Go.Proofs.YthdfmbmbjpmlaaaDoorW.PrintWords Go.Proofs.YthdfmbmbjpmlaaaDoorW.PrintLast Go.Proofs.YthdfmbmbjpmlaaaDoorW.PrintMore
mutual
/-- how many nodes -/
def sizeP : Pt → Nat
 | ⟨_, _, _, l⟩ => sizeL l + 1
def sizeL : List Pt → Nat
 | [] => 0
 | x :: l => sizeP x + sizeL l
end
mutual
/-- how deep -/
def deepP : Pt → Nat
 | ⟨_, _, _, l⟩ => deepL l + 1
def deepL : List Pt → Nat
 | [] => 0
 | x :: l => max (deepP x) (deepL l)
end
mutual
theorem fwR_ok : ∀ (x : Pt) (deep n : Int), (sizeP x : Int) ≤ n → deep + (deepP x : Int) ≤ 13 → fwR x deep n = (true, n - sizeP x)
 | ⟨_, _, _, l⟩, deep, n, h1, h2 => by
  simp only [sizeP, deepP] at h1 h2
  rw [fwR, if_pos ⟨by omega, by omega⟩, fwL_ok l (deep + 1) (n - 1) (by omega) (by omega)]
  simp only [sizeP]
  congr 1
  omega
theorem fwL_ok : ∀ (l : List Pt) (deep n : Int), (sizeL l : Int) ≤ n → deep + (deepL l : Int) ≤ 13 → fwL l deep n = (true, n - sizeL l)
 | [], deep, n, h1, h2 => by simp [fwL, sizeL]
 | x :: l, deep, n, h1, h2 => by
  simp only [sizeL, deepL] at h1 h2
  have e := fwR_ok x deep n (by omega) (by omega)
  rw [fwL_yes (by rw [e]), e]
  show fwL l deep (n - sizeP x) = _
  rw [fwL_ok l deep _ (by omega) (by omega)]
  simp only [sizeL]
  congr 1
  omega
end
theorem few_of {x : Pt} (h1 : sizeP x ≤ 60) (h2 : deepP x ≤ 12) : fewS x = true := by
 unfold fewS
 rw [fwR_ok x 1 60 (by omega) (by omega)]
def OkN (T : List Tok) (kind : Int) (l : List ByteArray) : Prop := ∀ s, s ∈ l → 0 ≤ findS T s 0 ∧ kindAt T (findS T s 0) = kind
theorem hasT_not {l : List ByteArray} {s : ByteArray} (h : s ∉ l) : hasT l s = false := by
 unfold hasT
 rw [List.any_eq_false]
 intro t ht he
 simp only [decide_eq_true_eq] at he
 exact h (he ▸ ht)
theorem namesS_none {T : List Tok} {kind : Int} : ∀ (l p : List ByteArray), OkN T kind l → (p ++ l).Nodup → namesS T kind p l = none
 | [], p, _, _ => rfl
 | s :: l, p, h, hn => by
  have h0 := h s (List.mem_cons_self ..)
  have hs : s ∉ p := fun hp => by
   have := (List.nodup_append.1 hn).2.2 s hp s (List.mem_cons_self ..)
   exact this rfl
  rw [namesS, if_pos ⟨h0.1, hasT_not hs⟩, if_pos h0.2]
  exact namesS_none l (p ++ [s]) (fun t ht => h t (List.mem_cons_of_mem _ ht)) (by rw [List.append_assoc]; exact hn)
structure NamesOk (T : List Tok) (ins calls rets : List ByteArray) : Prop where
 i : OkN T 0 ins
 c : OkN T 1 calls
 r : OkN T 2 rets
 ni : ins.Nodup
 nc : calls.Nodup
 nr : rets.Nodup
 pi : 0 < ins.length
 pc : 0 < calls.length
 pr : 0 < rets.length
theorem okN_pick {T : List Tok} {kind : Int} {l : List ByteArray} (h : OkN T kind l) (hn : l.Nodup) (k : Int) : namesS T kind [] (pickS l k) = none :=
 namesS_none _ [] (fun s hs => h s (pickS_mem hs)) (by simpa using pickS_nodup hn k)
theorem dec_pos {n : Nat} (h : 0 < n) : decide (0 < (n : Int)) = true := decide_eq_true (by omega)
section
variable {T : List Tok} {ins calls rets : List ByteArray} (H : NamesOk T ins calls rets)
include H
theorem node_tok (k : Int) : nodeR T ⟨2, pickS ins k, [], []⟩ = none := by
 have h1 := dec_pos (pickS_pos H.pi k)
 rw [nodeR, if_pos (by unfold shapedS; simp only [h1]; rfl), if_neg (by decide), okN_pick H.i H.ni]
 rfl
theorem node_in (a b : Int) (p : Pt) (hp : nodeR T p = none) : nodeR T ⟨3, pickS calls a, pickS rets b, [p]⟩ = none := by
 have h1 := dec_pos (pickS_pos H.pc a)
 have h2 := dec_pos (pickS_pos H.pr b)
 rw [nodeR, if_pos (by unfold shapedS; simp only [h1, h2]; rfl), if_pos rfl, okN_pick H.c H.nc, okN_pick H.r H.nr, orS, orS, nodeL, hp]
 rfl
end
theorem node_0 {T : List Tok} {k : Int} (h : k = 1 ∨ k = 4) : nodeR T ⟨k, [], [], []⟩ = none := by rcases h with rfl | rfl <;> rfl
theorem node_star {T : List Tok} {p : Pt} (hp : nodeR T p = none) : nodeR T ⟨7, [], [], [p]⟩ = none := by
 rw [nodeR, if_pos (by rfl), if_neg (by decide), namesS, namesS, orS, orS, nodeL, hp]
 rfl
theorem node_two {T : List Tok} {k : Int} {p q : Pt} (h : k = 5 ∨ k = 6) (hp : nodeR T p = none) (hq : nodeR T q = none) : nodeR T ⟨k, [], [], [p, q]⟩ = none := by
 have hs : shapedS ⟨k, [], [], [p, q]⟩ = true := by rcases h with rfl | rfl <;> rfl
 rw [nodeR, if_pos hs, if_neg (by omega), namesS, namesS, orS, orS, nodeL, hp, nodeL, hq]
 rfl
structure StackOk (T : List Tok) (m : Nat) (xs : List Pt) : Prop where
 n : ∀ x, x ∈ xs → nodeR T x = none
 d : ∀ x, x ∈ xs → deepP x + xs.length ≤ m + 2
 s : sizeL xs ≤ 2 * m
 l : xs.length ≤ m
theorem sizeL_append : ∀ (a b : List Pt), sizeL (a ++ b) = sizeL a + sizeL b
 | [], b => by simp [sizeL]
 | x :: a, b => by rw [List.cons_append, sizeL, sizeL, sizeL_append a b]; omega
theorem StackOk.push {T : List Tok} {m : Nat} {xs : List Pt} {p : Pt} (h : StackOk T m xs) (hp : nodeR T p = none) (hd : deepP p ≤ 2) (hs : sizeP p ≤ 2) : StackOk T (m + 1) (xs ++ [p]) := by
 have hl := h.l
 have hz := h.s
 refine ⟨fun x hx => ?_, fun x hx => ?_, ?_, by simp; omega⟩
 · rcases List.mem_append.1 hx with hx | hx
   · exact h.n x hx
   · exact List.mem_singleton.1 hx ▸ hp
 · rw [List.length_append, List.length_singleton]
   rcases List.mem_append.1 hx with hx | hx
   · have := h.d x hx
     omega
   · rw [List.mem_singleton.1 hx]
     omega
 · rw [sizeL_append, sizeL, sizeL]
   omega
theorem last_split {xs : List Pt} (h : 0 < xs.length) : ∃ a p, xs = a ++ [p] ∧ xs.getD (xs.length - 1) ptZ = p := by
 refine ⟨xs.dropLast, xs.getLast (List.ne_nil_of_length_pos h), (List.dropLast_concat_getLast _).symm, ?_⟩
 rw [List.getLast_eq_getElem, List.getD_eq_getElem?_getD, List.getElem?_eq_getElem (by omega)]
 rfl
theorem StackOk.put {T : List Tok} {m : Nat} {xs : List Pt} {q : Pt → Pt} (h : StackOk T m xs) (h0 : 0 < xs.length) (hp : ∀ p, nodeR T p = none → nodeR T (q p) = none) (hd : ∀ p, deepP (q p) = deepP p + 1) (hs : ∀ p, sizeP (q p) = sizeP p + 1) : StackOk T (m + 1) (xs.set (xs.length - 1) (q (xs.getD (xs.length - 1) ptZ))) := by
 obtain ⟨a, p, rfl, hg⟩ := last_split h0
 rw [hg]
 have e : (a ++ [p]).set ((a ++ [p]).length - 1) (q p) = a ++ [q p] := by
  rw [List.length_append, List.length_singleton, Nat.add_sub_cancel, List.set_append_right _ _ (Nat.le_refl _), Nat.sub_self]
  rfl
 rw [e]
 have hl := h.l
 have hz := h.s
 have hD := h.d
 rw [sizeL_append, sizeL, sizeL] at hz
 rw [List.length_append, List.length_singleton] at hl hD
 refine ⟨fun x hx => ?_, fun x hx => ?_, ?_, by simp; omega⟩
 · rcases List.mem_append.1 hx with hx | hx
   · exact h.n x (List.mem_append_left _ hx)
   · exact List.mem_singleton.1 hx ▸ hp p (h.n p (List.mem_append_right _ (List.mem_singleton_self _)))
 · rw [List.length_append, List.length_singleton]
   rcases List.mem_append.1 hx with hx | hx
   · have := hD x (List.mem_append_left _ hx)
     omega
   · rw [List.mem_singleton.1 hx, hd]
     have := hD p (List.mem_append_right _ (List.mem_singleton_self _))
     omega
 · rw [sizeL_append, sizeL, sizeL, hs]
   omega
theorem two_split {xs : List Pt} (h : 1 < xs.length) : ∃ a p q, xs = a ++ [p, q] ∧ xs.take (xs.length - 2) = a ∧ xs.getD (xs.length - 2) ptZ = p ∧ xs.getD (xs.length - 1) ptZ = q := by
 obtain ⟨b, q, rfl, hq⟩ := last_split (xs := xs) (by omega)
 obtain ⟨a, p, rfl, hp⟩ := last_split (xs := b) (by simp at h; omega)
 refine ⟨a, p, q, by rw [List.append_assoc]; rfl, ?_, ?_, hq⟩
 · have : (a ++ [p] ++ [q]).length - 2 = a.length := by simp
   rw [this, List.append_assoc, List.take_left]
 · have : (a ++ [p] ++ [q]).length - 2 = a.length := by simp
   rw [this, List.append_assoc, List.getD_eq_getElem?_getD, List.getElem?_append_right (Nat.le_refl _), Nat.sub_self]
   rfl
theorem StackOk.two {T : List Tok} {m : Nat} {xs : List Pt} {k : Int} (h : StackOk T m xs) (h1 : 1 < xs.length) (hk : k = 5 ∨ k = 6) : StackOk T (m + 1) (xs.take (xs.length - 2) ++ [⟨k, [], [], [xs.getD (xs.length - 2) ptZ, xs.getD (xs.length - 1) ptZ]⟩]) := by
 obtain ⟨a, p, q, rfl, e1, e2, e3⟩ := two_split h1
 rw [e1, e2, e3]
 have hl := h.l
 have hz := h.s
 have hD := h.d
 rw [sizeL_append, sizeL, sizeL, sizeL] at hz
 simp only [List.length_append, List.length_cons, List.length_nil] at hl hD
 have mp : p ∈ a ++ [p, q] := by simp
 have mq : q ∈ a ++ [p, q] := by simp
 refine ⟨fun x hx => ?_, fun x hx => ?_, ?_, by simp; omega⟩
 · rcases List.mem_append.1 hx with hx | hx
   · exact h.n x (List.mem_append_left _ hx)
   · exact List.mem_singleton.1 hx ▸ node_two hk (h.n p mp) (h.n q mq)
 · rw [List.length_append, List.length_singleton]
   rcases List.mem_append.1 hx with hx | hx
   · have := hD x (List.mem_append_left _ hx)
     omega
   · rw [List.mem_singleton.1 hx]
     simp only [deepP, deepL]
     have := hD p mp
     have := hD q mq
     omega
 · rw [sizeL_append, sizeL, sizeL]
   simp only [sizeP, sizeL]
   omega
theorem StackOk.next {T : List Tok} {ins calls rets : List ByteArray} (H : NamesOk T ins calls rets) {m : Nat} {xs : List Pt} (h : StackOk T m xs) (k : Int) : StackOk T (m + 1) (patNext ins calls rets xs k) := by
 have hw : 0 ≤ IntKind.u64.wrap k % 11 ∧ IntKind.u64.wrap k % 11 < 11 := by omega
 unfold patNext
 generalize IntKind.u64.wrap k % 11 = v at hw ⊢
 split
 · exact h.push (node_tok H _) (by simp [deepP, deepL]) (by simp [sizeP, sizeL])
 split
 · exact h.push (node_0 (Or.inr rfl)) (by simp [deepP, deepL]) (by simp [sizeP, sizeL])
 split
 · exact h.push (node_0 (Or.inl rfl)) (by simp [deepP, deepL]) (by simp [sizeP, sizeL])
 split
 · exact h.push (node_in H _ _ _ (node_0 (by split <;> simp))) (by simp [deepP, deepL]) (by simp [sizeP, sizeL])
 split
 · exact h.put (q := fun p => ⟨7, [], [], [p]⟩) (by omega) (fun p hp => node_star hp) (fun p => by simp [deepP, deepL]) (fun p => by simp [sizeP, sizeL])
 split
 · exact h.put (q := fun p => ⟨3, pickS calls (wrap64 (k.tdiv 11)), pickS rets (wrap64 (k.tdiv 13)), [p]⟩) (by omega) (fun p hp => node_in H _ _ _ hp) (fun p => by simp [deepP, deepL]) (fun p => by simp [sizeP, sizeL])
 split
 · exact h.two (by omega) (Or.inl rfl)
 · exact h.two (by omega) (Or.inr rfl)
theorem StackOk.run {T : List Tok} {ins calls rets : List ByteArray} (H : NamesOk T ins calls rets) : ∀ (ks : List Int) {m : Nat} {xs : List Pt}, StackOk T m xs → StackOk T (m + ks.length) (patRun ins calls rets xs ks)
 | [], m, xs, h => h
 | k :: ks, m, xs, h => by
  have := StackOk.run H ks (h.next H k)
  rw [show m + 1 + ks.length = m + (k :: ks).length from by simp; omega] at this
  exact this
theorem seq_ok {T : List Tok} : ∀ (l : List Pt) (p : Pt) (B : Nat), nodeR T p = none → deepP p ≤ B → (∀ x, x ∈ l → nodeR T x = none ∧ deepP x ≤ B) → nodeR T (patSeq p l) = none ∧ deepP (patSeq p l) ≤ B + l.length ∧ sizeP (patSeq p l) = sizeP p + sizeL l + l.length
 | [], p, B, h1, h2, h3 => ⟨h1, h2, by simp [patSeq, sizeL]⟩
 | x :: l, p, B, h1, h2, h3 => by
  have hx := h3 x (List.mem_cons_self ..)
  have h := seq_ok l ⟨5, [], [], [p, x]⟩ (B + 1) (node_two (Or.inl rfl) h1 hx.1) (by simp only [deepP, deepL]; omega) (fun y hy => ⟨(h3 y (List.mem_cons_of_mem _ hy)).1, Nat.le_succ_of_le (h3 y (List.mem_cons_of_mem _ hy)).2⟩)
  rw [patSeq]
  refine ⟨h.1, by have := h.2.1; simp; omega, ?_⟩
  rw [h.2.2]
  simp only [sizeP, sizeL, List.length_cons]
  omega
theorem made_pat {T : List Tok} {ins calls rets : List ByteArray} (H : NamesOk T ins calls rets) (ks : List Int) : patS T (madeP ins calls rets ks) = none ∧ sizeP (madeP ins calls rets ks) ≤ 60 ∧ deepP (madeP ins calls rets ks) ≤ 12 := by
 have h := StackOk.run H (ks.take 8) (m := 0) (xs := []) ⟨fun x hx => by simp at hx, fun x hx => by simp at hx, by simp [sizeL], Nat.le_refl _⟩
 have h8 : (ks.take 8).length ≤ 8 := by rw [List.length_take]; omega
 unfold madeP
 generalize patRun ins calls rets [] (ks.take 8) = xs at h
 have key : ∀ x : Pt, nodeR T x = none → sizeP x ≤ 60 → deepP x ≤ 12 → patS T x = none ∧ sizeP x ≤ 60 ∧ deepP x ≤ 12 := fun x h1 h2 h3 => ⟨by unfold patS; rw [if_pos (few_of h2 h3)]; exact h1, h2, h3⟩
 match xs, h with
 | [], h => exact key _ (node_0 (Or.inr rfl)) (by simp [sizeP, sizeL]) (by simp [deepP, deepL])
 | p :: l, h =>
  have hl := h.l
  have hs := h.s
  have hd := h.d
  simp only [List.length_cons, sizeL] at hl hs hd
  have h2 := seq_ok l p (0 + (ks.take 8).length + 2 - (l.length + 1)) (h.n p (List.mem_cons_self ..)) (by have := hd p (List.mem_cons_self ..); omega) (fun x hx => ⟨h.n x (List.mem_cons_of_mem _ hx), by have := hd x (List.mem_cons_of_mem _ hx); omega⟩)
  exact key (patSeq p l) h2.1 (by have := h2.2.2; omega) (by have := h2.2.1; omega)
theorem made_names (n : Nat) : NamesOk (madeTs n) abS (madeCalls n) (madeRets n) := by
 unfold madeTs madeCalls madeRets
 have n2 : ∀ a b : ByteArray, a ≠ b → [a, b].Nodup := fun a b h => by simp [h]
 have ne1 : (⟨#[97]⟩ : ByteArray) ≠ ⟨#[98]⟩ := by decide
 have ne2 : (⟨#[111]⟩ : ByteArray) ≠ ⟨#[112]⟩ := by decide
 have ne3 : (⟨#[99]⟩ : ByteArray) ≠ ⟨#[113]⟩ := by decide
 have ok : ∀ (T : List Tok) (s : ByteArray) (i kind : Int), findS T s 0 = i → 0 ≤ i → kindAt T i = kind → 0 ≤ findS T s 0 ∧ kindAt T (findS T s 0) = kind := fun T s i kind h1 h2 h3 => by rw [h1]; exact ⟨h2, h3⟩
 by_cases h : 3 < n
 · simp only [if_pos h]
   refine ⟨?_, ?_, ?_, n2 _ _ ne1, n2 _ _ ne2, n2 _ _ ne3, by decide, by decide, by decide⟩
   · intro s hs
     simp only [abS, List.mem_cons, List.not_mem_nil, or_false] at hs
     rcases hs with rfl | rfl
     · exact ok _ _ 0 _ (by kernel_rfl) (by decide) (by kernel_rfl)
     · exact ok _ _ 1 _ (by kernel_rfl) (by decide) (by kernel_rfl)
   · intro s hs
     simp only [List.mem_cons, List.not_mem_nil, or_false] at hs
     rcases hs with rfl | rfl
     · exact ok _ _ 2 _ (by kernel_rfl) (by decide) (by kernel_rfl)
     · exact ok _ _ 4 _ (by kernel_rfl) (by decide) (by kernel_rfl)
   · intro s hs
     simp only [List.mem_cons, List.not_mem_nil, or_false] at hs
     rcases hs with rfl | rfl
     · exact ok _ _ 3 _ (by kernel_rfl) (by decide) (by kernel_rfl)
     · exact ok _ _ 5 _ (by kernel_rfl) (by decide) (by kernel_rfl)
 · simp only [if_neg h]
   refine ⟨?_, ?_, ?_, n2 _ _ ne1, by simp, by simp, by decide, by decide, by decide⟩
   · intro s hs
     simp only [abS, List.mem_cons, List.not_mem_nil, or_false] at hs
     rcases hs with rfl | rfl
     · exact ok _ _ 0 _ (by kernel_rfl) (by decide) (by kernel_rfl)
     · exact ok _ _ 1 _ (by kernel_rfl) (by decide) (by kernel_rfl)
   · intro s hs
     simp only [List.mem_cons, List.not_mem_nil, or_false] at hs
     subst hs
     exact ok _ _ 2 _ (by kernel_rfl) (by decide) (by kernel_rfl)
   · intro s hs
     simp only [List.mem_cons, List.not_mem_nil, or_false] at hs
     subst hs
     exact ok _ _ 3 _ (by kernel_rfl) (by decide) (by kernel_rfl)
theorem step_ok (m : Nat) (l : List Int) (k : Int) (j : Nat) : (decide (0 < (stepOf m l k j).f0.length) == (decide (0 < j) || freeOf k)) = true ∧ namesS (madeTs m) 1 [] (stepOf m l k j).f0 = none ∧ patS (madeTs m) (stepOf m l k j).f1 = none := by
 have H := made_names m
 refine ⟨?_, ?_, (made_pat H _).1⟩
 · unfold stepOf
   by_cases h : 0 < j ∨ freeOf k = true
   · rw [if_pos h]
     have h1 : decide (0 < (pickS (madeCalls m) (wrap64 (k.tdiv 4))).length) = true := decide_eq_true (pickS_pos H.pc _)
     have h2 : (decide (0 < j) || freeOf k) = true := by rcases h with h | h <;> simp [h]
     show (decide (0 < (pickS (madeCalls m) (wrap64 (k.tdiv 4))).length) == (decide (0 < j) || freeOf k)) = true
     rw [h1, h2]
     rfl
   · rw [if_neg h]
     have h2 : (decide (0 < j) || freeOf k) = false := by
      simp only [not_or, Bool.not_eq_true] at h
      simp [h.2]
      omega
     rw [h2]
     rfl
 · unfold stepOf
   by_cases h : 0 < j ∨ freeOf k = true
   · rw [if_pos h]
     exact okN_pick H.c H.nc _
   · rw [if_neg h]
     rfl
theorem rule_ok (m i : Nat) (l : List Int) (k : Int) (hi : i ≤ 20) : ruleS (madeTs m) (ruleOf m i l k) = none := by
 have h1 := stepsN_le k
 have hc : classS (10 + (i : Int)) = none := if_pos ⟨by omega, by omega⟩
 unfold ruleS ruleOf
 rw [hc]
 show (if 1 ≤ (stepsTo m l k (stepsN k)).length ∧ (stepsTo m l k (stepsN k)).length ≤ 4 then stepsS (madeTs m) (freeOf k) 0 (stepsTo m l k (stepsN k)) else some 6) = none
 rw [stepsTo_len, if_pos ⟨h1.1, by omega⟩]
 have s0 := step_ok m l k 0
 have s1 := step_ok m l k 1
 have h2 : stepsN k = 1 ∨ stepsN k = 2 := by omega
 rcases h2 with h2 | h2
 · rw [h2]
   show stepsS (madeTs m) (freeOf k) 0 [stepOf m l k 0] = none
   rw [stepsS, if_pos s0.1, s0.2.1, s0.2.2]
   rfl
 · rw [h2]
   show stepsS (madeTs m) (freeOf k) 0 [stepOf m l k 0, stepOf m l k 1] = none
   rw [stepsS, if_pos s0.1, s0.2.1, s0.2.2, orS, orS, stepsS, if_pos s1.1, s1.2.1, s1.2.2]
   rfl
theorem rulesTo_mem {m : Nat} {ls : List (List Int)} {r : Rul} : ∀ {i : Nat}, r ∈ rulesTo m ls i → ∃ j l k, j < i ∧ r = ruleOf m j l k
 | 0, h => by simp [rulesTo] at h
 | i + 1, h => by
  rw [rulesTo] at h
  rcases List.mem_append.1 h with h | h
  · obtain ⟨j, l, k, hj, e⟩ := rulesTo_mem h
    exact ⟨j, l, k, Nat.lt_succ_of_lt hj, e⟩
  · split at h
    · exact ⟨i, _, _, Nat.lt_succ_self _, List.mem_singleton.1 h⟩
    · simp at h
theorem made_rules {ls : List (List Int)} {r : Rul} (h : r ∈ madeRs ls) : ∃ j l k, j < 3 ∧ r = ruleOf ls.length j l k := by
 obtain ⟨j, l, k, hj, e⟩ := rulesTo_mem h
 exact ⟨j, l, k, by omega, e⟩
theorem made_rules_len (ls : List (List Int)) : (madeRs ls).length ≤ 3 := Nat.le_trans (rulesTo_len _ _ _) (Nat.min_le_right _ _)
theorem rulesS_none {T : List Tok} : ∀ (R : List Rul) (i : Nat), (∀ r, r ∈ R → ruleS T r = none) → rulesS T i R = none
 | [], i, _ => rfl
 | r :: R, i, h => by
  rw [rulesS, h r (List.mem_cons_self ..), rulesS_none R (i + 1) (fun q hq => h q (List.mem_cons_of_mem _ hq))]
  rfl
abbrev okM : Tok → Bool := fun _ => true
abbrev okE : Tok → Bool := fun _ => false
theorem made_toks (n : Nat) : (1 : Int) ≤ (madeTs n).length ∧ ((madeTs n).length : Int) ≤ 16 ∧ toksS okM okE (madeTs n) 0 (madeTs n) = none := by
 unfold madeTs
 by_cases h : 3 < n
 · simp only [if_pos h]
   exact ⟨by decide, by decide, by kernel_rfl⟩
 · simp only [if_neg h]
   exact ⟨by decide, by decide, by kernel_rfl⟩
theorem made_check (n : Nat) (R : List Rul) : checkS okM okE (madeTs n) R = lateS (madeTs n) R := by
 have h := made_toks n
 unfold checkS
 rw [if_pos ⟨h.1, h.2.1⟩, h.2.2]
 rfl
theorem made_late (ls : List (List Int)) : lateS (madeTs ls.length) (madeRs ls) = none := by
 unfold lateS
 rw [if_pos (by have := made_rules_len ls; omega)]
 refine rulesS_none _ _ (fun r hr => ?_)
 obtain ⟨j, l, k, hj, rfl⟩ := made_rules hr
 exact rule_ok _ _ _ _ (by omega)
theorem may_p : regex_May.f 3 [] [oneT 99, oneT 99] = some true := by kernel_rfl
theorem may_q : regex_May.f 3 [] [oneT 100, oneT 97] = some true := by kernel_rfl
theorem emp_p : regex_Empty.f 9 3 [] [oneT 99, oneT 99] = some false := by kernel_rfl
theorem emp_q : regex_Empty.f 9 3 [] [oneT 100, oneT 97] = some false := by kernel_rfl
theorem mades_ok (n : Nat) (t : Tok) (h : t ∈ madeTs n) : TokOk okM okE t := by
 unfold madeTs at h
 by_cases hn : 3 < n
 · rw [if_pos hn] at h
   rcases List.mem_append.1 h with h | h
   · exact made_ok t h
   · simp only [tokPQ, List.mem_cons, List.not_mem_nil, or_false] at h
     rcases h with rfl | rfl
     · exact ⟨by decide, may_p, fun _ => ⟨_, emp_p⟩⟩
     · exact ⟨by decide, may_q, fun _ => ⟨_, emp_q⟩⟩
 · rw [if_neg hn] at h
   exact made_ok t h
theorem chk_gen (ls : List (List Int)) : ChkC (madeTs ls.length) (madeRs ls) 0 0 := chk_of _ _ 0 0 (mades_ok _) (by rw [show checkS (fun _ => true) (fun _ => false) (madeTs ls.length) (madeRs ls) = lateS (madeTs ls.length) (madeRs ls) from made_check _ _, made_late]; rfl)
end Go.Proofs.YthdfmbmbjpmlaaaDoor.Rn
end
