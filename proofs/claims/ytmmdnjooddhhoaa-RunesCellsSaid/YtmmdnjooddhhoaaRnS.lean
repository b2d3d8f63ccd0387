/- runes.spans. -/
import Derived.Test.YtmmdnjooddhhoaaRnQ
import Derived.Deep.DeepCutAuto
import Derived.StillTailTactics
set_option linter.unusedVariables false
set_option linter.unusedSimpArgs false
namespace Go.Proofs.Ytmmdnjooddhhoaa.Rn
open Go Go.RowKit Go.Proofs.YtmmdnjooddhhoaaW.PrintWords Go.Proofs.YtmmdnjooddhhoaaW.PrintLast Go.Proofs.YtmmdnjooddhhoaaW.PrintMore
def numS (r : Int) : Int := (runes_number.f r).getD 0
def behS (r : Int) : Int := (runes_behind.f r).getD 0
theorem num_f (r : Int) : runes_number.f r = some (numS r) := by
  unfold numS runes_number.f
  by_cases h1 : r < 0
  · simp only [if_pos h1, Option.getD_some]
  by_cases h2 : r < 55296
  · simp only [if_neg h1, if_pos h2, Option.getD_some]
  by_cases h3 : r ≤ 57343
  · simp only [if_neg h1, if_neg h2, if_pos h3, Option.getD_some]
  · simp only [if_neg h1, if_neg h2, if_neg h3, Option.getD_some]
theorem beh_f (r : Int) : runes_behind.f r = some (behS r) := by
  unfold behS runes_behind.f
  rw [num_f, is_f]
  simp only [Option.bind_some]
  cases h : isS r
  · simp
  · simp
def keepS (x : Rg) : List Sp := if x.f0 ≤ x.f1 ∧ numS x.f0 < behS x.f1 then [⟨numS x.f0, behS x.f1⟩] else []
def rawS (l : List Rg) : List Sp := l.flatMap keepS
theorem rawS_snoc (l : List Rg) (k : Nat) (x : Rg) (h : l[k]? = some x) : rawS (l.take (k + 1)) = rawS (l.take k) ++ keepS x := by
  unfold rawS
  rw [List.take_add_one, h, List.flatMap_append]
  simp
theorem rawS_len (l : List Rg) : (rawS l).length ≤ l.length := by
  induction l with
  | nil => simp [rawS]
  | cons x l ih =>
    unfold rawS at *
    rw [List.flatMap_cons, List.length_append, List.length_cons]
    have : (keepS x).length ≤ 1 := by unfold keepS; split <;> simp
    omega
theorem rawS_take (l : List Rg) (k : Nat) : (rawS (l.take k)).length ≤ k := by
  have := rawS_len (l.take k)
  rw [List.length_take] at this
  omega
theorem R_append50 {P : Program} {ops : Array Oper} {o : Oper} {a : Act} {Q : Exit → Act → World → Prop} {rest : List Oper} (hP : P = Try.prog) {w0 W : World} (base : Nat) (hgd : o.guard = none) (s x : Operand)
    (ho : o.op = .call { callee := .builtin .append, args := #[s, x], argTypes := #[40, 40] })
    (A : Option Addr) (c n : Nat) (xs : List Sp) (p : Sp) (hs : a.eval s = .slice A n c) (hn : xs.length = n) (hx : a.eval x = .slice (some ⟨W.heap.size, 0, none⟩) 1 1)
    (HO : Kd.R k50 50 W base (fun _ => True) (.slice A n c) xs) (HB : Below base w0 W) (hbase : base ≤ W.heap.size) (hl : (xs.length + 1) * 16 ≤ 140737488355328)
    (h : ∀ A1 c1 w1, Kd.R k50 50 w1 base (fun _ => True) (.slice A1 (n + 1) c1) (xs ++ [p]) → Below base w0 w1 → W.grownBy w1 (Value.slice A n c).ownBlock → ((Value.slice A1 (n + 1) c1).ownBlock = (Value.slice A n c).ownBlock ∨ ∃ b, (Value.slice A1 (n + 1) c1).ownBlock = some b ∧ W.heap.size ≤ b) → wpList P ops Q rest (a.put o.dst (.slice A1 (n + 1) c1)) w1) :
    wpList P ops Q (o :: rest) a (W.alloc (.cells #[.int .i64 p.f0, .int .i64 p.f1] 50)) := by
  subst hP hn
  exact R_appendS k50 (w0 := w0) base hgd s x 40 50 (.agg #[.int .i64 0, .int .i64 0]) 16 ho Try.underlying40 info50 rfl (by decide) (by decide) (.slice A xs.length c) xs p _ (fun _ => True) (fun _ => False) hs hx (k50_mkM _ _ _ p) (fun _ h => h.elim) (fun _ _ => trivial) HO HB hbase hl h
def okR (l : List Rg) : Bool := decide (l.length ≤ 1000000) && l.all (fun x => decide (-2147483648 ≤ x.f0) && decide (x.f0 < 2147483648) && decide (-2147483648 ≤ x.f1) && decide (x.f1 < 2147483648))
def spansS (l : List Rg) : List Sp := nfS (rawS l)
def runes_spans.f (l0 : List Rg) : Option (List Sp) := if okR l0 = true then some (spansS l0) else none
/-- the first loop: what is kept of the ranges -/
def KeptAt (l0 : List Rg) (w : World) (k : Nat) (A1 : Option Addr) (c1 : Nat) (W : World) : Prop :=
  Kd.R k50 50 W w.heap.size (fun _ => True) (.slice A1 (rawS (l0.take k)).length c1) (rawS (l0.take k)) ∧ Below w.heap.size w W
theorem num_nonneg {r : Int} (h1 : -2147483648 ≤ r) (h2 : r < 2147483648) : 0 ≤ numS r := by
  unfold numS runes_number.f
  by_cases c1 : r < 0
  · simp [c1]
  by_cases c2 : r < 55296
  · simp only [if_neg c1, if_pos c2, Option.getD_some]
    unfold wrap64
    omega
  by_cases c3 : r ≤ 57343
  · simp [c1, c2, c3]
  · simp only [if_neg c1, if_neg c2, if_neg c3, Option.getD_some]
    unfold mn wrap64
    split <;> omega
theorem okR_at {l : List Rg} (h : okR l = true) : ∀ x, x ∈ l → -2147483648 ≤ x.f0 ∧ x.f0 < 2147483648 ∧ -2147483648 ≤ x.f1 ∧ x.f1 < 2147483648 := fun x hx => by
  unfold okR at h
  simp only [Bool.and_eq_true, decide_eq_true_eq, List.all_eq_true] at h
  have h2 := h.2 x hx
  omega
theorem rawS_valid {l : List Rg} (h : okR l = true) : ∀ x, x ∈ rawS l → 0 ≤ x.1 ∧ x.1 < x.2 := fun x hx => by
  obtain ⟨y, hy, hxy⟩ := List.mem_flatMap.1 hx
  have hb := okR_at h y hy
  unfold keepS at hxy
  by_cases c : y.f0 ≤ y.f1 ∧ numS y.f0 < behS y.f1
  · rw [if_pos c] at hxy
    obtain rfl := List.mem_singleton.1 hxy
    exact ⟨num_nonneg hb.1 hb.2.1, c.2⟩
  · rw [if_neg c] at hxy
    cases hxy
/-- a row of spans of one's own, by plain addresses -/
theorem sp_own {W : World} {base n c : Nat} {ok : Nat → Prop} {A : Option Addr} {xs : List Sp} (h : Kd.R k50 50 W base ok (.slice A n c) xs) (hn : 0 < xs.length) :
    ∃ g, A = some ⟨g, 0, none⟩ ∧ base ≤ g ∧ (∃ cur, W.heap[g]? = some (.cells cur 50 (0, 0))) ∧ ∀ j x, xs[j]? = some x → W.cell? ⟨g, j * 2, none⟩ = some (.int .i64 x.f0) ∧ W.cell? ⟨g, j * 2 + 1, none⟩ = some (.int .i64 x.f1) := by
  obtain ⟨_, inner, ho, hr⟩ := h
  rcases ho.2 with ⟨_, h1⟩ | ⟨g, cap, cur, hv, hbg, hg, hnc, hcm, hcs, htake⟩
  · omega
  injection hv with hA _ hc
  subst hA hc
  refine ⟨g, rfl, hbg, ⟨cur, hg⟩, fun j x hx => ?_⟩
  have hj : j < xs.length := (List.getElem?_eq_some_iff.1 hx).1
  have htake2 : cur.toList.take (xs.length * 2) = inner := htake
  have hfl : ∀ t, t < xs.length * 2 → cur[t]? = some ((encS (xs.toArray[t / 2]!))[t % 2]!) := fun t ht => by
    have h2 := flat_inner (fun x cs h => k50_openM h) hr t ht
    rw [← htake2, List.getElem?_take, if_pos ht] at h2
    simpa using h2
  have hxj : xs.toArray[j]! = x := by
    have := (List.getElem?_eq_some_iff.1 hx).2
    simp [hj]
    exact this
  refine ⟨?_, ?_⟩
  · rw [blk_cell hg, hfl _ (by omega), show j * 2 / 2 = j by omega, show j * 2 % 2 = 0 by omega, hxj]
    rfl
  · rw [blk_cell hg, hfl _ (by omega), show (j * 2 + 1) / 2 = j by omega, show (j * 2 + 1) % 2 = 1 by omega, hxj]
    rfl
/-- the second loop: what is merged of the spans -/
def MergedAt (w5 : World) (ys : List Sp) (k : Nat) (A2 : Option Addr) (c2 : Nat) (W : World) : Prop :=
  Kd.R k50 50 W w5.heap.size (fun _ => True) (.slice A2 (mergeS (ys.take k)).length c2) (mergeS (ys.take k)) ∧ Below w5.heap.size w5 W
theorem mergeS_len (l : List Sp) : ∀ k, (mergeS (l.take k)).length ≤ k := by
  intro k
  induction k with
  | zero => simp [mergeS]
  | succ k ih =>
    by_cases h : k < l.length
    · rw [List.take_succ_eq_append_getElem h, mergeS_snoc]
      rcases List.eq_nil_or_concat (mergeS (l.take k)) with h2 | ⟨p, y, h2⟩
      · rw [h2]
        simp [stepM]
      · rw [h2, List.concat_eq_append, stepM_snoc]
        rw [h2, List.concat_eq_append, List.length_append, List.length_singleton] at ih
        split <;> simp <;> omega
    · rw [List.take_of_length_le (by omega)]
      rw [List.take_of_length_le (by omega)] at ih
      omega
set_option maxHeartbeats 4000000 in
set_option maxRecDepth 100000 in
theorem runes_spans.calls (A0 : Option Addr) (c0 : Nat) (l0 : List Rg) (r : List Sp) (w : World) (hr0 : Kd.C k35 w A0 l0.length l0) (hc0 : l0.length ≤ c0) (h : runes_spans.f l0 = some r) :
    Calls Try.prog 31 #[.slice A0 l0.length c0] w fun e w' => ∃ v0_ : Value, e = .returned (v0_) ∧ Kd.R k50 50 w' w.heap.size (fun _ => True) v0_ r ∧ Below w.heap.size w w' := by
  have hok : okR l0 = true := by
    unfold runes_spans.f at h
    by_cases h1 : okR l0 = true
    · exact h1
    · rw [if_neg h1] at h
      cases h
  have hr : spansS l0 = r := by
    unfold runes_spans.f at h
    rw [if_pos hok] at h
    exact Option.some.inj h
  have hl : l0.length ≤ 1000000 := by
    unfold okR at hok
    simp only [Bool.and_eq_true, decide_eq_true_eq] at hok
    exact hok.1
  have HOK := Aside0.mk hok
  have HR := Aside0.mk hr
  have HC := Aside0.mk hr0
  clear h hok hr hr0
  go_enter Try.func31, Try.ntmps31
  go_wp2
  go_loopw [3, 13] (fun s i W => ∃ (k : Nat) (A1 : Option Addr) (c1 : Nat), i = .int .i64 k ∧ k ≤ l0.length ∧ s = .slice A1 (rawS (l0.take k)).length c1 ∧ Aside0 (KeptAt l0 w k A1 c1 W)) (fun _ i _ => l0.length - (intOf i).toNat)
  case atStart => exact ⟨0, none, 0, rfl, Nat.zero_le _, rfl, ⟨Kd.R_nil _ _ _ _ _, Below.refl _ _⟩⟩
  case round =>
    obtain ⟨k, A1, c1, rfl, hkl, rfl, HK⟩ := hrel
    by_cases hlt : k < l0.length
    · obtain ⟨g, o, rfl, _, hcell⟩ := rg_cells HC.out (by omega)
      obtain ⟨x, hx⟩ : ∃ x, l0[k]? = some x := ⟨_, List.getElem?_eq_getElem hlt⟩
      obtain ⟨x0, x1⟩ := hcell k x hx
      have y0 := (HK.out.2.cell (p := ⟨g, o + k * 2, none⟩) (blk_lt' x0)).trans x0
      have y1 := (HK.out.2.cell (p := ⟨g, o + k * 2 + 1, none⟩) (blk_lt' x1)).trans x1
      have HSN := Aside0.mk (rawS_snoc l0 k x hx)
      have HRL := Aside0.mk (rawS_take l0 k)
      clear hcell hx x0 x1
      obtain ⟨lo, hi⟩ := x
      dsimp only at y0 y1
      go_upto_region 5 with (fail)
      obtain ⟨w3, hw3⟩ : ∃ w3, wr.alloc (Obj.cells #[.int .i32 lo, .int .i32 hi] 35) = w3 := ⟨_, rfl⟩
      rw [hw3]
      obtain ⟨gb, hgb⟩ : ∃ gb, wr.heap.size = gb := ⟨_, rfl⟩
      rw [hgb]
      have hbox : w3.heap[gb]? = some (.cells #[.int .i32 lo, .int .i32 hi] 35 (0, 0)) := by rw [← hw3, ← hgb]; exact blk_new _ _
      have HBOX := Aside0.mk hbox
      have HB3 : Aside0 (Below w.heap.size w w3) := ⟨hw3 ▸ below_alloc HK.out.2 _⟩
      have HR3 : Aside0 (Kd.R k50 50 w3 w.heap.size (fun _ => True) (.slice A1 (rawS (l0.take k)).length c1) (rawS (l0.take k))) := ⟨hw3 ▸ Kd.R_alloc HK.out.1 _⟩
      obtain ⟨a, ha⟩ : ∃ a, numS lo = a := ⟨_, rfl⟩
      obtain ⟨b, hb⟩ : ∃ b, behS hi = b := ⟨_, rfl⟩
      have HNA : Aside0 (runes_number.f lo = some a) := ⟨by rw [num_f, ha]⟩
      have HNB : Aside0 (runes_behind.f hi = some b) := ⟨by rw [beh_f, hb]⟩
      have HKEEP : Aside0 (keepS ⟨lo, hi⟩ = if lo ≤ hi ∧ a < b then [⟨a, b⟩] else []) := ⟨by unfold keepS; rw [ha, hb]⟩
      clear hw3 hgb ha hb y0 y1 HK
      go_cut [6] (fun v6 W => ∃ g6 : Nat, v6 = .pointer (some ⟨g6, 0, none⟩) ∧ Aside0 (W.heap[g6]? = some (.cells #[.int .i64 a, .int .i64 b] 50 (0, 0)) ∧ Below w3.heap.size w3 W))
      case first =>
        have q0 : ∀ p : Later w3, p.wx.cell? ⟨gb, 0, none⟩ = some (.int .i32 lo) := fun p => cell_after p.below ((blk_cell hbox 0).trans rfl)
        have q1 : ∀ p : Later w3, p.wx.cell? ⟨gb, 1, none⟩ = some (.int .i32 hi) := fun p => cell_after p.below ((blk_cell hbox 1).trans rfl)
        have HLAT : Aside0 (Below w3.heap.size w3 w3.drew) := ⟨below_drew1 (Below.refl _ _)⟩
        clear hbox
        refine wp_region_held (S := fun w' => ∃ p : Later w3, w' = p.wx) (by kernel_rfl) ?_
        change wpAnyH _ _ _ _ _ _ _ _ (World.drew _)
        ((refine takeQ (i := 0) (by rfl) (by kernel_rfl) (by kernel_rfl) (by kernel_rfl) ?_ ?_ ?_); (focus exact fun _ _ _ _ h => h); (focus exact ⟨⟨_, HLAT.out⟩, rfl⟩); intro K hK; go_simp; (with_reducible refine hK _ ?_); clear hK K)
        ((refine takeQ (i := 1) (by rfl) (by kernel_rfl) (by kernel_rfl) (by kernel_rfl) ?_ ?_ ?_); (focus exact fun _ _ _ _ h => h); (focus exact ⟨⟨_, HLAT.out⟩, rfl⟩); intro K hK; go_simp; (with_reducible refine hK _ ?_); clear hK K)
        ((refine takeQ (i := 3) (by rfl) (by kernel_rfl) (by kernel_rfl) (by kernel_rfl) ?_ ?_ ?_); (focus exact fun _ _ _ _ h => h); (focus exact ⟨⟨_, HLAT.out⟩, rfl⟩); intro K hK; go_simp; (with_reducible refine hK _ ?_); clear hK K)
        ((refine takeQ (i := 4) (by rfl) (by kernel_rfl) (by kernel_rfl) (by kernel_rfl) ?_ ?_ ?_); (focus exact fun _ _ _ _ h => h); (focus exact ⟨⟨_, HLAT.out⟩, rfl⟩); intro K hK; go_simp; (with_reducible refine hK _ ?_); clear hK K)
        clear q0 q1
        refine hall2 (i := 2) (j := 7) (by kernel_rfl) (by rfl) (by rfl) (fun K hK => ?_) (fun K hK => ?_)
        · go_simp
          refine (runes_number.calls lo a _ HNA.out).mono ?_
          rintro e w4 ⟨rfl, hb4⟩
          have HLw4 : Aside0 (Below w3.heap.size w3 w4) := ⟨join_below HLAT.out hb4⟩
          clear hb4
          refine hK _ _ ⟨⟨_, HLw4.out⟩, rfl⟩ ?_
          clear hK K
          refine hall2 (i := 5) (j := 7) (by kernel_rfl) (by rfl) (by rfl) (fun K hK => ?_) (fun K hK => ?_)
          · go_simp
            refine (runes_behind.calls hi b _ HNB.out).mono ?_
            rintro e w5 ⟨rfl, hb4⟩
            have HLw5 : Aside0 (Below w3.heap.size w3 w5) := ⟨join_below HLw4.out hb4⟩
            clear hb4
            refine hK _ _ ⟨⟨_, HLw5.out⟩, rfl⟩ ?_
            clear hK K
            ((refine takeQ (i := 6) (by rfl) (by kernel_rfl) (by kernel_rfl) (by kernel_rfl) ?_ ?_ ?_); (focus exact fun _ _ _ _ h => h); (focus exact ⟨⟨_, HLw5.out⟩, rfl⟩); intro K hK; go_simp; (with_reducible refine hK _ ?_); clear hK K)
            refine hall1 (i := 7) (by kernel_rfl) (by rfl) (fun K hK => ?_)
            go_simp
            obtain ⟨wA, hwA⟩ : ∃ wA, w5.alloc (Obj.cells #[.int .i64 0, .int .i64 0] 50) = wA := ⟨_, rfl⟩
            rw [hwA]
            obtain ⟨g6, hg6⟩ : ∃ g6, w5.heap.size = g6 := ⟨_, rfl⟩
            rw [hg6]
            have HN6 : Aside0 (wA.heap[g6]? = some (.cells #[.int .i64 0, .int .i64 0] 50 (0, 0))) := ⟨by rw [← hwA, ← hg6]; exact blk_new _ _⟩
            have HLA : Aside0 (Below w3.heap.size w3 wA) := ⟨hwA ▸ below_alloc HLw5.out _⟩
            have HGE : Aside0 (w3.heap.size ≤ g6) := ⟨hg6 ▸ HLw5.out.size⟩
            clear hwA hg6
            refine hK _ _ ⟨⟨_, HLA.out⟩, rfl⟩ ?_
            clear hK K
            have c60 : wA.cell? ⟨g6, 0, none⟩ = some (.int .i64 0) := (blk_cell HN6.out 0).trans rfl
            have c61 : wA.cell? ⟨g6, 1, none⟩ = some (.int .i64 0) := (blk_cell HN6.out 1).trans rfl
            have f60 : wA.frozen? ⟨g6, 0, none⟩ = false := blk_frozen HN6.out 0
            have f61 : wA.frozen? ⟨g6, 1, none⟩ = false := blk_frozen HN6.out 1
            refine hall1 (i := 8) (by kernel_rfl) (by rfl) (fun K hK => ?_)
            go_simp
            have HLZ : Aside0 (Below w3.heap.size w3 ((wA.setCell ⟨g6, 0, none⟩ (.int .i64 a)).setCell ⟨g6, 1, none⟩ (.int .i64 b))) := ⟨(HLA.out.setCell (p := ⟨g6, 0, none⟩) HGE.out _).setCell (p := ⟨g6, 1, none⟩) HGE.out _⟩
            refine hK _ _ ⟨⟨_, HLZ.out⟩, rfl⟩ ?_
            clear hK K
            refine wpAnyH_done (by kernel_rfl) ?_ _
            clear c60 c61 f60 f61
            go_wp2
            go_meet
            case rel => exact ⟨g6, rfl, ⟨blk_put (blk_put HN6.out 0 _ rfl) 1 _ rfl, HLZ.out⟩⟩
          · go_simp
            obtain ⟨wA, hwA⟩ : ∃ wA, w4.alloc (Obj.cells #[.int .i64 0, .int .i64 0] 50) = wA := ⟨_, rfl⟩
            rw [hwA]
            obtain ⟨g6, hg6⟩ : ∃ g6, w4.heap.size = g6 := ⟨_, rfl⟩
            rw [hg6]
            have HN6 : Aside0 (wA.heap[g6]? = some (.cells #[.int .i64 0, .int .i64 0] 50 (0, 0))) := ⟨by rw [← hwA, ← hg6]; exact blk_new _ _⟩
            have HLA : Aside0 (Below w3.heap.size w3 wA) := ⟨hwA ▸ below_alloc HLw4.out _⟩
            have HGE : Aside0 (w3.heap.size ≤ g6) := ⟨hg6 ▸ HLw4.out.size⟩
            clear hwA hg6
            refine hK _ _ ⟨⟨_, HLA.out⟩, rfl⟩ ?_
            clear hK K
            refine hall1 (i := 5) (by kernel_rfl) (by rfl) (fun K hK => ?_)
            go_simp
            refine (runes_behind.calls hi b _ HNB.out).mono ?_
            rintro e w5 ⟨rfl, hb4⟩
            have HLw5 : Aside0 (Below w3.heap.size w3 w5) := ⟨join_below HLA.out hb4⟩
            have HN6 := Aside0.mk ((hb4.block g6 (blk_lt HN6.out)).trans HN6.out)
            clear hb4
            refine hK _ _ ⟨⟨_, HLw5.out⟩, rfl⟩ ?_
            clear hK K
            ((refine takeQ (i := 6) (by rfl) (by kernel_rfl) (by kernel_rfl) (by kernel_rfl) ?_ ?_ ?_); (focus exact fun _ _ _ _ h => h); (focus exact ⟨⟨_, HLw5.out⟩, rfl⟩); intro K hK; go_simp; (with_reducible refine hK _ ?_); clear hK K)
            have c60 : w5.cell? ⟨g6, 0, none⟩ = some (.int .i64 0) := (blk_cell HN6.out 0).trans rfl
            have c61 : w5.cell? ⟨g6, 1, none⟩ = some (.int .i64 0) := (blk_cell HN6.out 1).trans rfl
            have f60 : w5.frozen? ⟨g6, 0, none⟩ = false := blk_frozen HN6.out 0
            have f61 : w5.frozen? ⟨g6, 1, none⟩ = false := blk_frozen HN6.out 1
            refine hall1 (i := 8) (by kernel_rfl) (by rfl) (fun K hK => ?_)
            go_simp
            have HLZ : Aside0 (Below w3.heap.size w3 ((w5.setCell ⟨g6, 0, none⟩ (.int .i64 a)).setCell ⟨g6, 1, none⟩ (.int .i64 b))) := ⟨(HLw5.out.setCell (p := ⟨g6, 0, none⟩) HGE.out _).setCell (p := ⟨g6, 1, none⟩) HGE.out _⟩
            refine hK _ _ ⟨⟨_, HLZ.out⟩, rfl⟩ ?_
            clear hK K
            refine wpAnyH_done (by kernel_rfl) ?_ _
            clear c60 c61 f60 f61
            go_wp2
            go_meet
            case rel => exact ⟨g6, rfl, ⟨blk_put (blk_put HN6.out 0 _ rfl) 1 _ rfl, HLZ.out⟩⟩
        · go_simp
          obtain ⟨wA, hwA⟩ : ∃ wA, (w3.alloc (Obj.cells #[.int .i64 0, .int .i64 0] 50)).drew = wA := ⟨_, rfl⟩
          rw [hwA]
          obtain ⟨g6, hg6⟩ : ∃ g6, w3.heap.size = g6 := ⟨_, rfl⟩
          rw [hg6]
          have HN6 : Aside0 (wA.heap[g6]? = some (.cells #[.int .i64 0, .int .i64 0] 50 (0, 0))) := ⟨by rw [← hwA, ← hg6]; exact blk_new w3 _⟩
          have HLA : Aside0 (Below w3.heap.size w3 wA) := ⟨hwA ▸ below_drew1 (below1 w3 _)⟩
          have HGE : Aside0 (w3.heap.size ≤ g6) := ⟨Nat.le_of_eq hg6⟩
          clear hwA hg6
          refine hK _ _ ⟨⟨_, HLA.out⟩, rfl⟩ ?_
          clear hK K
          refine hall1 (i := 2) (by kernel_rfl) (by rfl) (fun K hK => ?_)
          go_simp
          refine (runes_number.calls lo a _ HNA.out).mono ?_
          rintro e w4 ⟨rfl, hb4⟩
          have HLw4 : Aside0 (Below w3.heap.size w3 w4) := ⟨join_below HLA.out hb4⟩
          have HN6 := Aside0.mk ((hb4.block g6 (blk_lt HN6.out)).trans HN6.out)
          clear hb4
          refine hK _ _ ⟨⟨_, HLw4.out⟩, rfl⟩ ?_
          clear hK K
          refine hall1 (i := 5) (by kernel_rfl) (by rfl) (fun K hK => ?_)
          go_simp
          refine (runes_behind.calls hi b _ HNB.out).mono ?_
          rintro e w5 ⟨rfl, hb4⟩
          have HLw5 : Aside0 (Below w3.heap.size w3 w5) := ⟨join_below HLw4.out hb4⟩
          have HN6 := Aside0.mk ((hb4.block g6 (blk_lt HN6.out)).trans HN6.out)
          clear hb4
          refine hK _ _ ⟨⟨_, HLw5.out⟩, rfl⟩ ?_
          clear hK K
          ((refine takeQ (i := 6) (by rfl) (by kernel_rfl) (by kernel_rfl) (by kernel_rfl) ?_ ?_ ?_); (focus exact fun _ _ _ _ h => h); (focus exact ⟨⟨_, HLw5.out⟩, rfl⟩); intro K hK; go_simp; (with_reducible refine hK _ ?_); clear hK K)
          have c60 : w5.cell? ⟨g6, 0, none⟩ = some (.int .i64 0) := (blk_cell HN6.out 0).trans rfl
          have c61 : w5.cell? ⟨g6, 1, none⟩ = some (.int .i64 0) := (blk_cell HN6.out 1).trans rfl
          have f60 : w5.frozen? ⟨g6, 0, none⟩ = false := blk_frozen HN6.out 0
          have f61 : w5.frozen? ⟨g6, 1, none⟩ = false := blk_frozen HN6.out 1
          refine hall1 (i := 8) (by kernel_rfl) (by rfl) (fun K hK => ?_)
          go_simp
          have HLZ : Aside0 (Below w3.heap.size w3 ((w5.setCell ⟨g6, 0, none⟩ (.int .i64 a)).setCell ⟨g6, 1, none⟩ (.int .i64 b))) := ⟨(HLw5.out.setCell (p := ⟨g6, 0, none⟩) HGE.out _).setCell (p := ⟨g6, 1, none⟩) HGE.out _⟩
          refine hK _ _ ⟨⟨_, HLZ.out⟩, rfl⟩ ?_
          clear hK K
          refine wpAnyH_done (by kernel_rfl) ?_ _
          clear c60 c61 f60 f61
          go_wp2
          go_meet
          case rel => exact ⟨g6, rfl, ⟨blk_put (blk_put HN6.out 0 _ rfl) 1 _ rfl, HLZ.out⟩⟩
      case rest =>
        obtain ⟨g6, rfl, HE⟩ := hcut
        have HBOX4 := Aside0.mk ((HE.out.2.block gb (blk_lt HBOX.out)).trans HBOX.out)
        have b0 : wc.cell? ⟨gb, 0, none⟩ = some (.int .i32 lo) := (blk_cell HBOX4.out 0).trans rfl
        have b1 : wc.cell? ⟨gb, 1, none⟩ = some (.int .i32 hi) := (blk_cell HBOX4.out 1).trans rfl
        have s0 : wc.cell? ⟨g6, 0, none⟩ = some (.int .i64 a) := (blk_cell HE.out.1 0).trans rfl
        have s1 : wc.cell? ⟨g6, 1, none⟩ = some (.int .i64 b) := (blk_cell HE.out.1 1).trans rfl
        have HB4 := Aside0.mk (join_below HB3.out HE.out.2)
        have HR4 := Aside0.mk (Kd.R_below HR3.out HE.out.2)
        clear hbox
        by_cases h1 : lo ≤ hi
        · by_cases h2 : a < b
          · have HK5 : Aside0 (rawS (l0.take (k + 1)) = rawS (l0.take k) ++ [⟨a, b⟩]) := ⟨by rw [HSN.out, HKEEP.out, if_pos ⟨h1, h2⟩]⟩
            go_wp2_with ((with_reducible refine gate_builtin (b := .append) (xs := #[.tmp 36, .tmp 38]) rfl ?_); refine R_append50 rfl (w0 := wc) w.heap.size rfl (.tmp 36) (.tmp 38) rfl A1 c1 (rawS (l0.take k)).length (rawS (l0.take k)) ⟨a, b⟩ rfl rfl rfl HR4.out (Below.refl _ _) HB4.out.size ?hl ?_; (case hl => have := HRL.out; omega); intro A5 c5 w5 hR5 hb5 hg5 hn5)
            go_roundw
            case rel => exact ⟨k + 1, A5, c5, by go_num, by omega, by rw [HK5.out]; simp, ⟨by unfold KeptAt; rw [HK5.out, List.length_append]; exact ⟨hR5, HB4.out.trans hb5⟩⟩⟩
            case measure => simp [intOf]; omega
          · have HK5 : Aside0 (rawS (l0.take (k + 1)) = rawS (l0.take k)) := ⟨by rw [HSN.out, HKEEP.out, if_neg (fun h => h2 h.2), List.append_nil]⟩
            go_wp2
            repeat (go_quiet (fail); try go_wp2)
            go_roundw
            case rel => exact ⟨k + 1, A1, c1, by go_num, by omega, by rw [HK5.out], ⟨by unfold KeptAt; rw [HK5.out]; exact ⟨HR4.out, HB4.out⟩⟩⟩
            case measure => simp [intOf]; omega
        · have HK5 : Aside0 (rawS (l0.take (k + 1)) = rawS (l0.take k)) := ⟨by rw [HSN.out, HKEEP.out, if_neg (fun h => h1 h.1), List.append_nil]⟩
          have hd1 : decide (lo ≤ hi) = false := decide_eq_false h1
          go_wp2
          repeat (go_quiet (fail); try go_wp2)
          go_roundw
          case rel => exact ⟨k + 1, A1, c1, by go_num, by omega, by rw [HK5.out], ⟨by unfold KeptAt; rw [HK5.out]; exact ⟨HR4.out, HB4.out⟩⟩⟩
          case measure => simp [intOf]; omega
    · have e : l0.take k = l0 := List.take_of_length_le (by omega)
      obtain ⟨hR1, hB1⟩ := HK.out
      have hxl : (rawS l0).length ≤ 1000000 := Nat.le_trans (rawS_len l0) hl
      rw [e] at hR1 ⊢
      have HFIN : Aside0 (∀ ys : List Sp, (∀ x, x ∈ ys ↔ x ∈ rawS l0) → (∀ i j (hi : i < j) (hj : j < ys.length), (ys[i]'(by omega)).1 ≤ ys[j].1) → mergeS ys = r ∧ ∀ x, x ∈ ys → 0 ≤ x.1 ∧ x.1 < x.2) := ⟨fun ys h1 h2 => ⟨(merge_any h1 h2 (rawS_valid HOK.out)).trans HR.out, fun x hx => rawS_valid HOK.out x ((h1 x).1 hx)⟩⟩
      obtain ⟨xs, hxs⟩ : ∃ xs, rawS l0 = xs := ⟨_, rfl⟩
      rw [hxs] at hR1 hxl HFIN ⊢
      have HR1 := Aside0.mk hR1
      have HB1 := Aside0.mk hB1
      clear e hR1 hB1 hxs HK HR HOK
      go_wp2_with fail
      refine (sort_any A1 xs c1 w.heap.size _ HR1.out (by omega)).mono ?_
      rintro e w5 ⟨rfl, ys, hyl, hym, hys, hR5, hb5⟩
      have HF := Aside0.mk (HFIN.out ys hym hys)
      have HM := Aside0.mk (merged_all ys hys HF.out.2)
      have HY5 : Aside0 (Kd.R k50 50 w5 w.heap.size (fun _ => True) (.slice A1 ys.length c1) ys) := ⟨by rw [hyl]; exact hR5⟩
      have HB5 := Aside0.mk (HB1.out.trans hb5)
      rw [← hyl]
      have hyb : ys.length ≤ 1000000 := by omega
      clear hyl hym hys hR5 hb5 HFIN HR1 HB1 hxl
      go_wp2_with fail
      go_loopw [7, 45] (fun v i W => ∃ (k : Nat) (A2 : Option Addr) (c2 : Nat), i = .int .i64 k ∧ k ≤ ys.length ∧ v = .slice A2 (mergeS (ys.take k)).length c2 ∧ Aside0 (MergedAt w5 ys k A2 c2 W)) (fun _ i _ => ys.length - (intOf i).toNat)
      case atStart => exact ⟨0, none, 0, rfl, Nat.zero_le _, rfl, ⟨Kd.R_nil _ _ _ _ _, Below.refl _ _⟩⟩
      case round =>
        obtain ⟨k, A2, c2, rfl, hkl, rfl, HK⟩ := hrel
        rename_i wr _
        by_cases hlt : k < ys.length
        · have hK := HK.out
          unfold MergedAt at hK
          obtain ⟨hKR, hKB⟩ := hK
          have HB := Aside0.mk hKB
          obtain ⟨x, hx⟩ : ∃ x, ys[k]? = some x := ⟨_, List.getElem?_eq_getElem hlt⟩
          obtain ⟨gy, rfl, _, _, hcy⟩ := sp_own HY5.out (by omega)
          obtain ⟨z0, z1⟩ := hcy k x hx
          have y0 := cell_after hKB z0
          have y1 := cell_after hKB z1
          have HSTEP : Aside0 (mergeS (ys.take (k + 1)) = stepM (mergeS (ys.take k)) x) := ⟨by rw [List.take_add_one, hx]; exact mergeS_snoc _ _⟩
          have HLEN := Aside0.mk (mergeS_len ys k)
          obtain ⟨O, hO⟩ : ∃ O, mergeS (ys.take k) = O := ⟨_, rfl⟩
          rw [hO] at hKR HSTEP HLEN ⊢
          obtain ⟨xa, xb⟩ := x
          dsimp only at y0 y1
          clear hKB hcy z0 z1 hx hO HK HM HF
          rcases List.eq_nil_or_concat O with rfl | ⟨p, y, rfl⟩
          · have HO : Aside0 (Kd.R k50 50 wr w5.heap.size (fun _ => True) (.slice A2 0 c2) []) := ⟨hKR⟩
            have HST2 : Aside0 (mergeS (ys.take (k + 1)) = [⟨xa, xb⟩]) := ⟨HSTEP.out⟩
            clear hKR HSTEP
            go_upto_region 15 with (fail)
            obtain ⟨w3, hw3⟩ : ∃ w3, wr.alloc (Obj.cells #[.int .i64 xa, .int .i64 xb] 50) = w3 := ⟨_, rfl⟩
            rw [hw3]
            obtain ⟨g9, hg9⟩ : ∃ g9, wr.heap.size = g9 := ⟨_, rfl⟩
            rw [hg9]
            have h9 : w3.heap[g9]? = some (.cells #[.int .i64 xa, .int .i64 xb] 50 (0, 0)) := by rw [← hw3, ← hg9]; exact blk_new _ _
            have c90 : w3.cell? ⟨g9, 0, none⟩ = some (.int .i64 xa) := (blk_cell h9 0).trans rfl
            have c91 : w3.cell? ⟨g9, 1, none⟩ = some (.int .i64 xb) := (blk_cell h9 1).trans rfl
            have HB3 : Aside0 (Below w5.heap.size w5 w3) := ⟨hw3 ▸ below_alloc HB.out _⟩
            have HO3 := Aside0.mk (show Kd.R k50 50 w3 w5.heap.size (fun _ => True) (.slice A2 0 c2) [] from hw3 ▸ Kd.R_alloc HO.out _)
            clear hw3 hg9 h9 y0 y1 HO HB
            go_quiet (fail)
            go_wp2_with ((with_reducible refine gate_builtin (b := .append) (xs := #[.tmp 78, .tmp 80]) rfl ?_); refine R_append50 rfl (w0 := w3.drewN nq) w5.heap.size rfl (.tmp 78) (.tmp 80) rfl A2 c2 0 [] ⟨xa, xb⟩ rfl rfl rfl (Kd.R_below HO3.out (pw_below_drewN (Below.refl _ _) _)) (Below.refl _ _) HB3.out.size ?hl2 ?_; (case hl2 => decide); intro A7 c7 w7 hR7 hb7 hg7 hn7)
            go_roundw
            case rel => exact ⟨k + 1, A7, c7, by go_num, by omega, by rw [HST2.out]; rfl, ⟨by unfold MergedAt; rw [HST2.out]; exact ⟨hR7, (pw_below_drewN HB3.out _).trans hb7⟩⟩⟩
            case measure => simp [intOf]; omega
          · obtain ⟨m, hm⟩ : ∃ m, p.length = m := ⟨_, rfl⟩
            have hlen : (p.concat y).length = m + 1 := by simp [hm]
            rw [hlen] at hKR HLEN ⊢
            rw [List.concat_eq_append] at hKR HSTEP
            have HO := Aside0.mk hKR
            obtain ⟨g2, rfl, hg2, ⟨cur, hcur⟩, hc2⟩ := sp_own hKR (by simp)
            have hy : (p ++ [y])[m]? = some y := by rw [← hm]; simp
            obtain ⟨_, v1⟩ := hc2 m y hy
            have hst := HSTEP.out
            rw [stepM_snoc] at hst
            obtain ⟨ya, yb⟩ := y
            dsimp only at v1 hst
            have HST := Aside0.mk hst
            have hmb : (m : Int) ≤ 1000000 := by have := HLEN.out; omega
            have hw0 : IntKind.i64.wrap (m : Int) = m := by rw [IntKind.wrap_i64]; omega
            have HM := Aside0.mk hm
            clear hKR HSTEP hc2 hy hst hlen hm
            go_upto_region 15 with (fail)
            obtain ⟨w3, hw3⟩ : ∃ w3, wr.alloc (Obj.cells #[.int .i64 xa, .int .i64 xb] 50) = w3 := ⟨_, rfl⟩
            rw [hw3]
            obtain ⟨g9, hg9⟩ : ∃ g9, wr.heap.size = g9 := ⟨_, rfl⟩
            rw [hg9]
            have h9 : w3.heap[g9]? = some (.cells #[.int .i64 xa, .int .i64 xb] 50 (0, 0)) := by rw [← hw3, ← hg9]; exact blk_new _ _
            have c90 : w3.cell? ⟨g9, 0, none⟩ = some (.int .i64 xa) := (blk_cell h9 0).trans rfl
            have c91 : w3.cell? ⟨g9, 1, none⟩ = some (.int .i64 xb) := (blk_cell h9 1).trans rfl
            have HB3 : Aside0 (Below w5.heap.size w5 w3) := ⟨hw3 ▸ below_alloc HB.out _⟩
            have HO3 := Aside0.mk (show Kd.R k50 50 w3 w5.heap.size (fun _ => True) (.slice (some ⟨g2, 0, none⟩) (m + 1) c2) (p ++ [⟨ya, yb⟩]) from hw3 ▸ Kd.R_alloc HO.out _)
            have v3 : w3.cell? ⟨g2, m * 2 + 1, none⟩ = some (.int .i64 yb) := by rw [← hw3]; exact cell_after (below1 _ _) v1
            have hcur3 : w3.heap[g2]? = some (.cells cur 50 (0, 0)) := by rw [← hw3]; exact ((below1 wr _).block g2 (blk_lt hcur)).trans hcur
            have HC3 := Aside0.mk hcur3
            clear hw3 hg9 h9 y0 y1 HO HB v1 hcur hcur3
            by_cases hxy : xa ≤ yb
            · have HST2 : Aside0 (mergeS (ys.take (k + 1)) = p ++ [⟨ya, max yb xb⟩]) := ⟨by have h := HST.out; rw [if_pos hxy] at h; exact h⟩
              go_quiet (fail)
              go_wp2_with fail
              obtain ⟨w4, hw4⟩ : ∃ w4, w3.drewN nq = w4 := ⟨_, rfl⟩
              rw [hw4]
              have u91 : w4.cell? ⟨g9, 1, none⟩ = some (.int .i64 xb) := by rw [← hw4]; simpa using c91
              have u3 : w4.cell? ⟨g2, m * 2 + 1, none⟩ = some (.int .i64 yb) := by rw [← hw4]; simpa using v3
              have hc4 : w4.heap[g2]? = some (.cells cur 50 (0, 0)) := by rw [← hw4]; exact HC3.out
              have f3 := blk_frozen hc4 (m * 2 + 1)
              have HB4 : Aside0 (Below w5.heap.size w5 w4) := ⟨hw4 ▸ pw_below_drewN HB3.out _⟩
              have HO4 : Aside0 (Kd.R k50 50 w4 w5.heap.size (fun _ => True) (.slice (some ⟨g2, 0, none⟩) (m + 1) c2) (p ++ [⟨ya, yb⟩])) := ⟨hw4 ▸ Kd.R_below HO3.out (pw_below_drewN (Below.refl _ _) _)⟩
              obtain ⟨g2', e2, _, _, hcc⟩ := sp_own HO4.out (by simp)
              injection e2 with e2
              injection e2 with e2
              subst e2
              obtain ⟨t0, t1⟩ := hcc m ⟨ya, yb⟩ (by rw [← HM.out]; simp)
              have t0' : w4.cell? ⟨g2, m * 2, none⟩ = some (.int .i64 ya) := t0
              clear t1 hcc hw4 c90 c91 v3
              have hlt1 : (m : Int) < (m : Int) + 1 := by omega
              have HSEG : Aside0 (Kd.R k50 50 (w4.setCell ⟨g2, m * 2 + 1, none⟩ (.int .i64 (max yb xb))) w5.heap.size (fun _ => True) (.slice (some ⟨g2, 0, none⟩) (m + 1) c2) (p ++ [⟨ya, max yb xb⟩])) := ⟨by
                have h := (Kd.R_seg HO4.out (m : Int) (by omega) (by omega) (c := [.int .i64 ya, .int .i64 yb]) (seg := [.int .i64 (max yb xb)]) (j := 1) rfl (fun j u hu => by
                  rw [Int.toNat_natCast]
                  match j, hu with
                  | 0, hu => injection hu with hu; subst hu; exact t0'
                  | 1, hu => injection hu with hu; subst hu; exact u3) (by show 1 + 1 ≤ 2; omega) (x' := ⟨ya, max yb xb⟩) (okp := fun _ => False) (k50_mkM _ _ _ _) (fun _ h => h.elim)).1
                rw [Int.toNat_natCast] at h
                have e : (p ++ [(⟨ya, yb⟩ : Sp)]).set m ⟨ya, max yb xb⟩ = p ++ [⟨ya, max yb xb⟩] := by
                  rw [← HM.out, List.set_append_right _ _ (Nat.le_refl _), Nat.sub_self]
                  rfl
                rw [e] at h
                exact h⟩
              have HBS : Aside0 (Below w5.heap.size w5 (w4.setCell ⟨g2, m * 2 + 1, none⟩ (.int .i64 (max yb xb)))) := ⟨HB4.out.setCell (p := ⟨g2, m * 2 + 1, none⟩) hg2 _⟩
              clear t0 t0'
              go_still_tail 14, (by kernel_rfl)
              change wpList _ _ _ _ _ w4.drew
              go_wp2
              go_roundw
              case rel => exact ⟨k + 1, some ⟨g2, 0, none⟩, c2, by go_num, by omega, by rw [HST2.out]; simp [HM.out], ⟨by unfold MergedAt; rw [HST2.out, show (p ++ [(⟨ya, max yb xb⟩ : Sp)]).length = m + 1 by simp [HM.out]]; first | exact ⟨HSEG.out, HBS.out⟩ | exact ⟨Kd.R_below HSEG.out (below_drew1 (Below.refl _ _)), below_drew1 HBS.out⟩⟩⟩
              case measure => simp [intOf]; omega
            · have HST2 : Aside0 (mergeS (ys.take (k + 1)) = p ++ [⟨ya, yb⟩] ++ [⟨xa, xb⟩]) := ⟨by have h := HST.out; rw [if_neg hxy] at h; exact h⟩
              go_quiet (fail)
              go_wp2_with ((with_reducible refine gate_builtin (b := .append) (xs := #[.tmp 78, .tmp 80]) rfl ?_); refine R_append50 rfl (w0 := w3.drewN nq) w5.heap.size rfl (.tmp 78) (.tmp 80) rfl (some ⟨g2, 0, none⟩) c2 (m + 1) (p ++ [⟨ya, yb⟩]) ⟨xa, xb⟩ rfl ?hn2 rfl (Kd.R_below HO3.out (pw_below_drewN (Below.refl _ _) _)) (Below.refl _ _) HB3.out.size ?hl3 ?_; (case hn2 => rw [List.length_append, HM.out]; rfl); (case hl3 => rw [List.length_append, HM.out]; show (m + 1 + 1) * 16 ≤ _; omega); intro A7 c7 w7 hR7 hb7 hg7 hn7)
              go_roundw
              case rel => exact ⟨k + 1, A7, c7, by go_num, by omega, by rw [HST2.out]; simp [HM.out], ⟨by unfold MergedAt; rw [HST2.out, show (p ++ [(⟨ya, yb⟩ : Sp)] ++ [(⟨xa, xb⟩ : Sp)]).length = m + 1 + 1 by simp [HM.out]]; exact ⟨hR7, (pw_below_drewN HB3.out _).trans hb7⟩⟩⟩
              case measure => simp [intOf]; omega
        · have e : ys.take k = ys := List.take_of_length_le (by omega)
          have hK := HK.out
          unfold MergedAt at hK
          rw [e] at hK ⊢
          rw [HF.out.1] at hK ⊢
          have HR9 := Aside0.mk hK.1
          have HB9 := Aside0.mk hK.2
          clear e hK HK HF HM
          go_wp2
          go_ret
          exact ⟨_, rfl, Kd.R_lower HR9.out (HB5.out.size), HB5.out.trans (HB9.out.mono HB5.out.size)⟩
end Go.Proofs.Ytmmdnjooddhhoaa.Rn
