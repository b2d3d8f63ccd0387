import Derived.Test.YtlopjkfhkfbhlaaDoorDcU
import Derived.Test.YtlopjkfhkfbhlaaDoorDcT
import Derived.Test.YtlopjkfhkfbhlaaDoorDcY
import Derived.OrdersHeld
set_option linter.unusedVariables false
set_option linter.unusedSimpArgs false
namespace Go.Proofs.YtlopjkfhkfbhlaaDoor.Dec
open Go Go.RowKit Go.Proofs.YtlopjkfhkfbhlaaDoorW.PrintWords Go.Proofs.YtlopjkfhkfbhlaaDoorW.PrintLast Go.Proofs.YtlopjkfhkfbhlaaDoorW.PrintMore
theorem Chain.round {bs : List Int} {p q k : Nat} {xs : List Item} (h : Chain bs p (xs.drop k) q) (hk : k < xs.length) :
    ∃ (n : Nat) (r : Int) (bad more : Bool), xs[k] = (⟨r, p, ((p + n : Nat) : Int), bad, more⟩ : Item) ∧ 0 < n ∧ p + n ≤ bs.length ∧ (bad = true ∧ n ≤ 3 ∧ r = 65533 ∨ bad = false ∧ more = false ∧ putS r = (bs.drop p).take n ∧ -2147483648 ≤ r ∧ r < 2147483648) ∧ Chain bs (p + n) (xs.drop (k + 1)) q := by
  rw [List.drop_eq_getElem_cons hk] at h
  obtain ⟨n, ⟨h1, h2, h3, h4, h5⟩, hc⟩ := h
  obtain ⟨x, hx⟩ : ∃ x, xs[k] = x := ⟨_, rfl⟩
  rw [hx] at h2 h3 h5 ⊢
  obtain ⟨r, f, t, bad, more⟩ := x
  dsimp only at h2 h3 h5
  subst h2 h3
  exact ⟨n, r, bad, more, by simp, h1, h4, h5, hc⟩
theorem Chain.over {bs : List Int} {p q k : Nat} {xs : List Item} (h : Chain bs p (xs.drop k) q) (hk : ¬ k < xs.length) : p = q := by
  rw [List.drop_of_length_le (by omega)] at h
  exact h
theorem hall1 {P : Program} {ops : Array Oper} {md : Region.Mode} {Q : Exit → Act → World → Prop} {S : World → Prop} {i : Nat} {o : Oper} {fuel : Nat} {listed : Array Bool} {a : Act} {w : World} (hr : Region.ready md ops listed = [i]) (hi : ops[i]? = some o)
    (h : ∀ K : Act → World → Prop, (∀ a' w', S w' → wpAnyH P md ops Q S fuel (listed.setIfInBounds i true) a' w' → K a' w') → if Region.wanted o (yielded ops a.tmps) = true then o.wp P a w K Q else K (a.put o.dst undef) w) : wpAnyH P md ops Q S (fuel + 1) listed a w := by
  refine wpAnyH_all hr (by simp) (fun j hj => ?_)
  obtain rfl := List.mem_singleton.1 hj
  have h2 := h (fun a' w' => S w' ∧ wpAnyH P md ops Q S fuel (listed.setIfInBounds j true) a' w') (fun a' w' hs hh => ⟨hs, hh⟩)
  unfold wpOp
  simp only [hi]
  by_cases hw : Region.wanted o (yielded ops a.tmps) = true
  · rw [if_pos hw] at h2 ⊢
    exact .inl h2
  · rw [if_neg hw] at h2 ⊢
    exact h2
theorem takeQ {P : Program} {ops : Array Oper} {md : Region.Mode} {Q : Exit → Act → World → Prop} {S : World → Prop} {i : Nat} {o : Oper} {fuel : Nat} {listed : Array Bool} {a : Act} {w : World} (hi : ops[i]? = some o)
    (hs : Region.noSelect ops = true) (hf : Region.free md ops listed i = true) (hr : (Region.ready md ops listed).contains i = true) (hQ2 : ∀ v c a w, Q (.panic c) (a.put o.dst v) w → Q (.panic c) a w) (hS : S w)
    (h : ∀ K : Act → Prop, (∀ a', wpAnyH P md ops Q S fuel (listed.setIfInBounds i true) a' w → K a') → if Region.wanted o (yielded ops a.tmps) = true then ∃ v, (∀ w', S w' → (execOp a.eval o).run P w' = .ok (.value v) w') ∧ K (a.put o.dst v) else K (a.put o.dst undef)) : wpAnyH P md ops Q S (fuel + 1) listed a w := by
  have h2 := h (fun a' => wpAnyH P md ops Q S fuel (listed.setIfInBounds i true) a' w) (fun _ hh => hh)
  by_cases hw : Region.wanted o (yielded ops a.tmps) = true
  · rw [if_pos hw] at h2
    obtain ⟨v, hv, hk⟩ := h2
    exact wpAnyH_take hi hs hf hr (hQ2 v) (.inl ⟨hw, hv⟩) hS hk
  · rw [if_neg hw] at h2
    exact wpAnyH_take hi hs hf hr (hQ2 undef) (.inr ⟨by simpa using hw, rfl⟩) hS h2
set_option maxHeartbeats 4000000 in
set_option maxRecDepth 100000 in
theorem parts_any (A : Option Addr) (bs : List Int) (c : Nat) (w : World) (hC : Kd.C (Kd.int .u8) w A bs.length bs) (hk : ∀ b ∈ bs, 0 ≤ b ∧ b < 256) (hT : Tabs w) (hl : bs.length ≤ 9223372036854775807) (hcap : bs.length ≤ c) :
    Calls Tryd.prog 6 #[.slice A bs.length c] w fun e w' => e = .returned (.bool true) ∧ Below w.heap.size w w' := by
  have HC := Aside0.mk hC
  have HT := Aside0.mk hT
  have HK := Aside0.mk hk
  have hu36 := Tryd.underlying36
  clear hC hT hk
  by_cases h400 : bs.length ≤ 400
  · have HL := Aside0.mk (allS_len bs (by omega))
    have HCh := Aside0.mk (parts_all bs (fun b hb => (HK.out b hb).1))
    go_enter Tryd.func6, Tryd.ntmps6
    go_wp2_with fail
    refine (all_sl A bs c w HC.out (fun b hb => (HK.out b hb).1) HT.out (by omega)).mono ?_
    obtain ⟨xs, hxs⟩ : ∃ xs, allS bs = xs := ⟨_, rfl⟩
    rw [hxs] at HL HCh ⊢
    clear hxs
    rintro e w2 ⟨A2, c2, rfl, hl2, hR2, hb2⟩
    have HX := Aside0.mk (Kd.R_reads' hR2).2.2
    have HB2 := Aside0.mk hb2
    have hxl := HL.out
    clear hR2 hb2 HL
    go_wp2
    go_loopw [4, 5, 50] (fun a i v50 W => ∃ k p : Nat, (v50 = undef ∨ v50 = .bool false) ∧ i = .int .i64 k ∧ a = .int .i64 p ∧ k ≤ xs.length ∧ p ≤ bs.length ∧ Aside0 (Chain bs p (xs.drop k) bs.length) ∧ Aside0 (Below w.heap.size w W) ∧ Aside0 (Below w2.heap.size w2 W)) (fun _ i _ _ => xs.length - (intOf i).toNat)
    case atStart => exact ⟨0, 0, .inl rfl, rfl, rfl, Nat.zero_le _, Nat.zero_le _, ⟨by simpa using HCh.out⟩, ⟨HB2.out⟩, ⟨Below.refl _ _⟩⟩
    case round =>
      obtain ⟨k, p, h50, rfl, rfl, hkl, hpl, HP, HB, HW⟩ := hrel
      rename_i wr _
      by_cases hlt : k < xs.length
      · obtain ⟨n, r, bad, more, hz, hn0, hn1, hor, hch⟩ := HP.out.round hlt
        have HCN := Aside0.mk hch
        obtain ⟨g, o, rfl, _, _⟩ := int_cells HC.out (by omega)
        obtain ⟨gx, ox, rfl, _, _⟩ := item_cells HX.out (by omega)
        obtain ⟨x0, x1, x2, x3, x4⟩ := item_at (Kd.C_below HX.out HW.out) k hlt
        rw [hz] at x0 x1 x2 x3 x4
        dsimp only at x0 x1 x2 x3 x4
        clear hch hz HP
        rcases hor with ⟨rfl, hn3, rfl⟩ | ⟨rfl, rfl, hput, hr1, hr2⟩
        · go_upto_region 9 with (fail)
          obtain ⟨w3, hw3⟩ : ∃ w3, wr.alloc (Obj.cells #[.int .i32 65533, .int .i64 p, .int .i64 (↑p + ↑n), .bool true, .bool more] 36) = w3 := ⟨_, rfl⟩
          rw [hw3]
          obtain ⟨gq, hgq⟩ : ∃ gq, wr.heap.size = gq := ⟨_, rfl⟩
          rw [hgq]
          have hbk := blk_new wr (Obj.cells #[.int .i32 65533, .int .i64 p, .int .i64 (↑p + ↑n), .bool true, .bool more] 36)
          rw [hw3, hgq] at hbk
          have y0 : w3.cell? ⟨gq, 0, none⟩ = some (.int .i32 65533) := (blk_cell hbk 0).trans rfl
          have y1 : w3.cell? ⟨gq, 1, none⟩ = some (.int .i64 p) := (blk_cell hbk 1).trans rfl
          have y2 : w3.cell? ⟨gq, 2, none⟩ = some (.int .i64 (↑p + ↑n)) := (blk_cell hbk 2).trans rfl
          have y3 : w3.cell? ⟨gq, 3, none⟩ = some (.bool true) := (blk_cell hbk 3).trans rfl
          have y4 : w3.cell? ⟨gq, 4, none⟩ = some (.bool more) := (blk_cell hbk 4).trans rfl
          have HB3 := Aside0.mk (hw3 ▸ below_alloc HB.out (Obj.cells #[.int .i32 65533, .int .i64 p, .int .i64 (↑p + ↑n), .bool true, .bool more] 36) : Below w.heap.size w w3)
          have HW3 := Aside0.mk (hw3 ▸ below_alloc HW.out (Obj.cells #[.int .i32 65533, .int .i64 p, .int .i64 (↑p + ↑n), .bool true, .bool more] 36) : Below w2.heap.size w2 w3)
          clear hw3 hgq hbk x0 x1 x2 x3 x4 HB HW
          have e1 : decide ((p : Int) + n ≤ p) = false := decide_eq_false (by omega)
          have e2 : decide ((bs.length : Int) < p + n) = false := decide_eq_false (by omega)
          have e3 : decide (3 < (p : Int) + n - p) = false := decide_eq_false (by omega)
          go_quiet (fail)
          go_wp2
          go_roundw
          case rel => exact ⟨k + 1, p + n, .inr rfl, by go_num, by go_num, by omega, by omega, HCN, ⟨pw_below_drewN HB3.out _⟩, ⟨pw_below_drewN HW3.out _⟩⟩
          case measure => simp [intOf]; omega
        · have H50 := Aside0.mk h50
          clear h50
          go_upto_region 9 with (fail)
          obtain ⟨w3, hw3⟩ : ∃ w3, wr.alloc (Obj.cells #[.int .i32 r, .int .i64 p, .int .i64 (↑p + ↑n), .bool false, .bool false] 36) = w3 := ⟨_, rfl⟩
          rw [hw3]
          obtain ⟨gq, hgq⟩ : ∃ gq, wr.heap.size = gq := ⟨_, rfl⟩
          rw [hgq]
          have hbk := blk_new wr (Obj.cells #[.int .i32 r, .int .i64 p, .int .i64 (↑p + ↑n), .bool false, .bool false] 36)
          rw [hw3, hgq] at hbk
          have y0 : w3.cell? ⟨gq, 0, none⟩ = some (.int .i32 r) := (blk_cell hbk 0).trans rfl
          have y1 : w3.cell? ⟨gq, 1, none⟩ = some (.int .i64 p) := (blk_cell hbk 1).trans rfl
          have y2 : w3.cell? ⟨gq, 2, none⟩ = some (.int .i64 (↑p + ↑n)) := (blk_cell hbk 2).trans rfl
          have y3 : w3.cell? ⟨gq, 3, none⟩ = some (.bool false) := (blk_cell hbk 3).trans rfl
          have y4 : w3.cell? ⟨gq, 4, none⟩ = some (.bool false) := (blk_cell hbk 4).trans rfl
          have HB3 := Aside0.mk (hw3 ▸ below_alloc HB.out (Obj.cells #[.int .i32 r, .int .i64 p, .int .i64 (↑p + ↑n), .bool false, .bool false] 36) : Below w.heap.size w w3)
          have HW3 := Aside0.mk (hw3 ▸ below_alloc HW.out (Obj.cells #[.int .i32 r, .int .i64 p, .int .i64 (↑p + ↑n), .bool false, .bool false] 36) : Below w2.heap.size w2 w3)
          clear hw3 hgq hbk x0 x1 x2 x3 x4 HB HW
          have hln := (putS_len r).1
          have hpl2 : (putS r).length = n := by
            rw [hput, List.length_take, List.length_drop]
            omega
          have HSub : Aside0 (∀ W, Below w.heap.size w W → Kd.C (Kd.int .u8) W (some ⟨g, o + p, none⟩) n (putS r)) := ⟨fun W hW => by
            have h := C_of_cells (k := .u8) (W := W) (x := ⟨g, o + p, none⟩) (len := n) (zs := bs.drop p) (by rw [List.length_drop]; omega) (by omega) (fun i hi => by
              rw [List.length_drop] at hi
              have e := int_cells_at (Kd.C_below HC.out hW) (p + i) (by omega)
              have e2 : (bs.drop p).getD i 0 = bs[p + i]'(by omega) := by
                rw [List.getD_eq_getElem?_getD, List.getElem?_drop, List.getElem?_eq_getElem (by omega)]
                rfl
              rw [e2, add_at]
              show W.cell? ⟨g, o + p + i, none⟩ = _
              rw [Nat.add_assoc]
              exact e)
            rw [← hput, hpl2] at h
            exact h⟩
          have HPut := Aside0.mk hput
          have HPL := Aside0.mk hpl2
          clear hput hpl2 hln
          have e1 : decide ((p : Int) + n ≤ p) = false := decide_eq_false (by omega)
          have e2 : decide ((bs.length : Int) < p + n) = false := decide_eq_false (by omega)
          have q0 : ∀ p : Later w3, p.wx.cell? ⟨gq, 0, none⟩ = _ := fun p => cell_later p.below y0
          have q1 : ∀ p : Later w3, p.wx.cell? ⟨gq, 1, none⟩ = _ := fun p => cell_later p.below y1
          have q2 : ∀ p : Later w3, p.wx.cell? ⟨gq, 2, none⟩ = _ := fun p => cell_later p.below y2
          have q3 : ∀ p : Later w3, p.wx.cell? ⟨gq, 3, none⟩ = _ := fun p => cell_later p.below y3
          have q4 : ∀ p : Later w3, p.wx.cell? ⟨gq, 4, none⟩ = _ := fun p => cell_later p.below y4
          obtain ⟨iu, hiu, hiz, his, _⟩ := info_parts info_u8
          have hcut := cut_mid (P := Tryd.prog) 22 5 .i64 .i64 Tryd.underlying22 hiu 1 his (some ⟨g, o, none⟩) bs.length c (p : Int) (p + n) (by omega) (by omega) (by omega) hcap
          have hcp : ¬ c = p := by omega
          simp only [Int.toNat_natCast] at hcut
          rw [if_neg hcp, show ((p : Int) + n).toNat - p = n by omega] at hcut
          simp only [Option.map_some, Nat.mul_one, add_at] at hcut
          have hcv2 : ∀ q : Later w3, Sem.run Tryd.prog (Go.convert 22 9 (.slice (some ⟨g, o + p, none⟩) n (c - p))) q.wx = .ok (.string (strOfNums (putS r))) q.wx := fun q => Kd.C_string (P := Tryd.prog) Tryd.underlying22 Tryd.underlying5 Tryd.underlying9 (c := c - p) (HSub.out _ (below_join HB3.out q.below))
          have HLAT : Aside0 (Below w3.heap.size w3 w3.drew) := ⟨below_drew1 (Below.refl _ _)⟩
          have hw1 : IntKind.i64.wrap ((p : Int) + n) = (p : Int) + n := by rw [IntKind.wrap_i64]; omega
          clear y0 y1 y2 y3 y4 hiu hiz his hcp
          have hund : undef = Value.tuple #[] := rfl
          refine wp_region_held (S := fun w' => ∃ p : Later w3, w' = p.wx) (by kernel_rfl) ?_
          change wpAnyH _ _ _ _ _ _ _ _ (World.drew _)
          ((refine takeQ (i := 0) (by rfl) (by kernel_rfl) (by kernel_rfl) (by kernel_rfl) ?_ ?_ ?_); (focus exact fun _ _ _ _ h => h); (focus exact ⟨⟨_, HLAT.out⟩, rfl⟩); intro K hK; go_simp; (with_reducible refine hK _ ?_); clear hK K)
          ((refine takeQ (i := 1) (by rfl) (by kernel_rfl) (by kernel_rfl) (by kernel_rfl) ?_ ?_ ?_); (focus exact fun _ _ _ _ h => h); (focus exact ⟨⟨_, HLAT.out⟩, rfl⟩); intro K hK; go_simp; (with_reducible refine hK _ ?_); clear hK K)
          ((refine takeQ (i := 2) (by rfl) (by kernel_rfl) (by kernel_rfl) (by kernel_rfl) ?_ ?_ ?_); (focus exact fun _ _ _ _ h => h); (focus exact ⟨⟨_, HLAT.out⟩, rfl⟩); intro K hK; go_simp; (with_reducible refine hK _ ?_); clear hK K)
          ((refine takeQ (i := 3) (by rfl) (by kernel_rfl) (by kernel_rfl) (by kernel_rfl) ?_ ?_ ?_); (focus exact fun _ _ _ _ h => h); (focus exact ⟨⟨_, HLAT.out⟩, rfl⟩); intro K hK; go_simp; (with_reducible refine hK _ ?_); clear hK K)
          ((refine takeQ (i := 4) (by rfl) (by kernel_rfl) (by kernel_rfl) (by kernel_rfl) ?_ ?_ ?_); (focus exact fun _ _ _ _ h => h); (focus exact ⟨⟨_, HLAT.out⟩, rfl⟩); intro K hK; go_simp; (with_reducible refine hK _ ?_); clear hK K)
          ((refine takeQ (i := 5) (by rfl) (by kernel_rfl) (by kernel_rfl) (by kernel_rfl) ?_ ?_ ?_); (focus exact fun _ _ _ _ h => h); (focus exact ⟨⟨_, HLAT.out⟩, rfl⟩); intro K hK; go_simp; (with_reducible refine hK _ ?_); clear hK K)
          ((refine takeQ (i := 6) (by rfl) (by kernel_rfl) (by kernel_rfl) (by kernel_rfl) ?_ ?_ ?_); (focus exact fun _ _ _ _ h => h); (focus exact ⟨⟨_, HLAT.out⟩, rfl⟩); intro K hK; go_simp; (with_reducible refine hK _ ?_); clear hK K)
          ((refine takeQ (i := 7) (by rfl) (by kernel_rfl) (by kernel_rfl) (by kernel_rfl) ?_ ?_ ?_); (focus exact fun _ _ _ _ h => h); (focus exact ⟨⟨_, HLAT.out⟩, rfl⟩); intro K hK; go_simp; (with_reducible refine hK _ ?_); clear hK K)
          ((refine takeQ (i := 8) (by rfl) (by kernel_rfl) (by kernel_rfl) (by kernel_rfl) ?_ ?_ ?_); (focus exact fun _ _ _ _ h => h); (focus exact ⟨⟨_, HLAT.out⟩, rfl⟩); intro K hK; go_simp; (with_reducible refine hK _ ?_); clear hK K)
          ((refine takeQ (i := 9) (by rfl) (by kernel_rfl) (by kernel_rfl) (by kernel_rfl) ?_ ?_ ?_); (focus exact fun _ _ _ _ h => h); (focus exact ⟨⟨_, HLAT.out⟩, rfl⟩); intro K hK; go_simp; (with_reducible refine hK _ ?_); clear hK K)
          ((refine takeQ (i := 10) (by rfl) (by kernel_rfl) (by kernel_rfl) (by kernel_rfl) ?_ ?_ ?_); (focus exact fun _ _ _ _ h => h); (focus exact ⟨⟨_, HLAT.out⟩, rfl⟩); intro K hK; go_simp; (with_reducible refine hK _ ?_); clear hK K)
          ((refine takeQ (i := 11) (by rfl) (by kernel_rfl) (by kernel_rfl) (by kernel_rfl) ?_ ?_ ?_); (focus exact fun _ _ _ _ h => h); (focus exact ⟨⟨_, HLAT.out⟩, rfl⟩); intro K hK; go_simp; (with_reducible refine hK _ ?_); clear hK K)
          ((refine takeQ (i := 12) (by rfl) (by kernel_rfl) (by kernel_rfl) (by kernel_rfl) ?_ ?_ ?_); (focus exact fun _ _ _ _ h => h); (focus exact ⟨⟨_, HLAT.out⟩, rfl⟩); intro K hK; go_simp; (with_reducible refine hK _ ?_); clear hK K)
          ((refine takeQ (i := 13) (by rfl) (by kernel_rfl) (by kernel_rfl) (by kernel_rfl) ?_ ?_ ?_); (focus exact fun _ _ _ _ h => h); (focus exact ⟨⟨_, HLAT.out⟩, rfl⟩); intro K hK; go_simp; (with_reducible refine hK _ ?_); clear hK K)
          ((refine takeQ (i := 14) (by rfl) (by kernel_rfl) (by kernel_rfl) (by kernel_rfl) ?_ ?_ ?_); (focus exact fun _ _ _ _ h => h); (focus exact ⟨⟨_, HLAT.out⟩, rfl⟩); intro K hK; go_simp; (with_reducible refine hK _ ?_); clear hK K)
          ((refine takeQ (i := 15) (by rfl) (by kernel_rfl) (by kernel_rfl) (by kernel_rfl) ?_ ?_ ?_); (focus exact fun _ _ _ _ h => h); (focus exact ⟨⟨_, HLAT.out⟩, rfl⟩); intro K hK; go_simp; (with_reducible refine hK _ ?_); clear hK K)
          ((refine takeQ (i := 16) (by rfl) (by kernel_rfl) (by kernel_rfl) (by kernel_rfl) ?_ ?_ ?_); (focus exact fun _ _ _ _ h => h); (focus exact ⟨⟨_, HLAT.out⟩, rfl⟩); intro K hK; go_simp; (with_reducible refine hK _ ?_); clear hK K)
          ((refine takeQ (i := 17) (by rfl) (by kernel_rfl) (by kernel_rfl) (by kernel_rfl) ?_ ?_ ?_); (focus exact fun _ _ _ _ h => h); (focus exact ⟨⟨_, HLAT.out⟩, rfl⟩); intro K hK; go_simp; (with_reducible refine hK _ ?_); clear hK K)
          ((refine takeQ (i := 18) (by rfl) (by kernel_rfl) (by kernel_rfl) (by kernel_rfl) ?_ ?_ ?_); (focus exact fun _ _ _ _ h => h); (focus exact ⟨⟨_, HLAT.out⟩, rfl⟩); intro K hK; go_simp; (with_reducible refine hK _ ?_); clear hK K)
          ((refine takeQ (i := 19) (by rfl) (by kernel_rfl) (by kernel_rfl) (by kernel_rfl) ?_ ?_ ?_); (focus exact fun _ _ _ _ h => h); (focus exact ⟨⟨_, HLAT.out⟩, rfl⟩); intro K hK; go_simp; (with_reducible refine hK _ ?_); clear hK K)
          ((refine takeQ (i := 20) (by rfl) (by kernel_rfl) (by kernel_rfl) (by kernel_rfl) ?_ ?_ ?_); (focus exact fun _ _ _ _ h => h); (focus exact ⟨⟨_, HLAT.out⟩, rfl⟩); intro K hK; go_simp; (with_reducible refine hK _ ?_); clear hK K)
          ((refine takeQ (i := 21) (by rfl) (by kernel_rfl) (by kernel_rfl) (by kernel_rfl) ?_ ?_ ?_); (focus exact fun _ _ _ _ h => h); (focus exact ⟨⟨_, HLAT.out⟩, rfl⟩); intro K hK; go_simp; (with_reducible refine hK _ ?_); clear hK K)
          ((refine takeQ (i := 22) (by rfl) (by kernel_rfl) (by kernel_rfl) (by kernel_rfl) ?_ ?_ ?_); (focus exact fun _ _ _ _ h => h); (focus exact ⟨⟨_, HLAT.out⟩, rfl⟩); intro K hK; go_simp; (with_reducible refine hK _ ?_); clear hK K)
          ((refine takeQ (i := 23) (by rfl) (by kernel_rfl) (by kernel_rfl) (by kernel_rfl) ?_ ?_ ?_); (focus exact fun _ _ _ _ h => h); (focus exact ⟨⟨_, HLAT.out⟩, rfl⟩); intro K hK; go_simp; (with_reducible refine hK _ ?_); clear hK K)
          ((refine takeQ (i := 24) (by rfl) (by kernel_rfl) (by kernel_rfl) (by kernel_rfl) ?_ ?_ ?_); (focus exact fun _ _ _ _ h => h); (focus exact ⟨⟨_, HLAT.out⟩, rfl⟩); intro K hK; go_simp; (with_reducible refine hK _ ?_); clear hK K)
          ((refine takeQ (i := 25) (by rfl) (by kernel_rfl) (by kernel_rfl) (by kernel_rfl) ?_ ?_ ?_); (focus exact fun _ _ _ _ h => h); (focus exact ⟨⟨_, HLAT.out⟩, rfl⟩); intro K hK; go_simp; (with_reducible refine hK _ ?_); clear hK K)
          ((refine takeQ (i := 26) (by rfl) (by kernel_rfl) (by kernel_rfl) (by kernel_rfl) ?_ ?_ ?_); (focus exact fun _ _ _ _ h => h); (focus exact ⟨⟨_, HLAT.out⟩, rfl⟩); intro K hK; go_simp; (with_reducible refine hK _ ?_); clear hK K)
          ((refine takeQ (i := 27) (by rfl) (by kernel_rfl) (by kernel_rfl) (by kernel_rfl) ?_ ?_ ?_); (focus exact fun _ _ _ _ h => h); (focus exact ⟨⟨_, HLAT.out⟩, rfl⟩); intro K hK; go_simp; (with_reducible refine hK _ ?_); clear hK K)
          ((refine takeQ (i := 28) (by rfl) (by kernel_rfl) (by kernel_rfl) (by kernel_rfl) ?_ ?_ ?_); (focus exact fun _ _ _ _ h => h); (focus exact ⟨⟨_, HLAT.out⟩, rfl⟩); intro K hK; go_simp; (with_reducible refine hK _ ?_); clear hK K)
          ((refine takeQ (i := 29) (by rfl) (by kernel_rfl) (by kernel_rfl) (by kernel_rfl) ?_ ?_ ?_); (focus exact fun _ _ _ _ h => h); (focus exact ⟨⟨_, HLAT.out⟩, rfl⟩); intro K hK; go_simp; (with_reducible refine hK _ ?_); clear hK K)
          ((refine takeQ (i := 30) (by rfl) (by kernel_rfl) (by kernel_rfl) (by kernel_rfl) ?_ ?_ ?_); (focus exact fun _ _ _ _ h => h); (focus exact ⟨⟨_, HLAT.out⟩, rfl⟩); intro K hK; go_simp; (with_reducible refine hK _ ?_); clear hK K)
          ((refine takeQ (i := 31) (by rfl) (by kernel_rfl) (by kernel_rfl) (by kernel_rfl) ?_ ?_ ?_); (focus exact fun _ _ _ _ h => h); (focus exact ⟨⟨_, HLAT.out⟩, rfl⟩); intro K hK; go_simp; (with_reducible refine hK _ ?_); clear hK K)
          ((refine takeQ (i := 32) (by rfl) (by kernel_rfl) (by kernel_rfl) (by kernel_rfl) ?_ ?_ ?_); (focus exact fun _ _ _ _ h => h); (focus exact ⟨⟨_, HLAT.out⟩, rfl⟩); intro K hK; go_simp; (with_reducible refine hK _ ?_); clear hK K)
          ((refine takeQ (i := 33) (by rfl) (by kernel_rfl) (by kernel_rfl) (by kernel_rfl) ?_ ?_ ?_); (focus exact fun _ _ _ _ h => h); (focus exact ⟨⟨_, HLAT.out⟩, rfl⟩); intro K hK; go_simp; (with_reducible refine hK _ ?_); clear hK K)
          ((refine takeQ (i := 34) (by rfl) (by kernel_rfl) (by kernel_rfl) (by kernel_rfl) ?_ ?_ ?_); (focus exact fun _ _ _ _ h => h); (focus exact ⟨⟨_, HLAT.out⟩, rfl⟩); intro K hK; go_simp; (with_reducible refine hK _ ?_); clear hK K)
          ((refine takeQ (i := 35) (by rfl) (by kernel_rfl) (by kernel_rfl) (by kernel_rfl) ?_ ?_ ?_); (focus exact fun _ _ _ _ h => h); (focus exact ⟨⟨_, HLAT.out⟩, rfl⟩); intro K hK; go_simp; (with_reducible refine hK _ ?_); clear hK K)
          ((refine takeQ (i := 36) (by rfl) (by kernel_rfl) (by kernel_rfl) (by kernel_rfl) ?_ ?_ ?_); (focus exact fun _ _ _ _ h => h); (focus exact ⟨⟨_, HLAT.out⟩, rfl⟩); intro K hK; go_simp; (with_reducible refine hK _ ?_); clear hK K)
          ((refine takeQ (i := 37) (by rfl) (by kernel_rfl) (by kernel_rfl) (by kernel_rfl) ?_ ?_ ?_); (focus exact fun _ _ _ _ h => h); (focus exact ⟨⟨_, HLAT.out⟩, rfl⟩); intro K hK; go_simp; (with_reducible refine hK _ ?_); clear hK K)
          ((refine takeQ (i := 38) (by rfl) (by kernel_rfl) (by kernel_rfl) (by kernel_rfl) ?_ ?_ ?_); (focus exact fun _ _ _ _ h => h); (focus exact ⟨⟨_, HLAT.out⟩, rfl⟩); intro K hK; go_simp; (with_reducible refine hK _ ?_); clear hK K)
          ((refine takeQ (i := 39) (by rfl) (by kernel_rfl) (by kernel_rfl) (by kernel_rfl) ?_ ?_ ?_); (focus exact fun _ _ _ _ h => h); (focus exact ⟨⟨_, HLAT.out⟩, rfl⟩); intro K hK; go_simp; (with_reducible refine hK _ ?_); clear hK K)
          ((refine takeQ (i := 40) (by rfl) (by kernel_rfl) (by kernel_rfl) (by kernel_rfl) ?_ ?_ ?_); (focus exact fun _ _ _ _ h => h); (focus exact ⟨⟨_, HLAT.out⟩, rfl⟩); intro K hK; go_simp; (with_reducible refine hK _ ?_); clear hK K)
          ((refine takeQ (i := 41) (by rfl) (by kernel_rfl) (by kernel_rfl) (by kernel_rfl) ?_ ?_ ?_); (focus exact fun _ _ _ _ h => h); (focus exact ⟨⟨_, HLAT.out⟩, rfl⟩); intro K hK; go_simp; (with_reducible refine hK _ ?_); clear hK K)
          ((refine takeQ (i := 42) (by rfl) (by kernel_rfl) (by kernel_rfl) (by kernel_rfl) ?_ ?_ ?_); (focus exact fun _ _ _ _ h => h); (focus exact ⟨⟨_, HLAT.out⟩, rfl⟩); intro K hK; go_simp; (with_reducible refine hK _ ?_); clear hK K)
          ((refine takeQ (i := 43) (by rfl) (by kernel_rfl) (by kernel_rfl) (by kernel_rfl) ?_ ?_ ?_); (focus exact fun _ _ _ _ h => h); (focus exact ⟨⟨_, HLAT.out⟩, rfl⟩); intro K hK; go_simp; (with_reducible refine hK _ ?_); clear hK K)
          ((refine takeQ (i := 46) (by rfl) (by kernel_rfl) (by kernel_rfl) (by kernel_rfl) ?_ ?_ ?_); (focus exact fun _ _ _ _ h => h); (focus exact ⟨⟨_, HLAT.out⟩, rfl⟩); intro K hK; go_simp; (with_reducible refine hK _ ?_); clear hK K)
          ((refine takeQ (i := 47) (by rfl) (by kernel_rfl) (by kernel_rfl) (by kernel_rfl) ?_ ?_ ?_); (focus exact fun _ _ _ _ h => h); (focus exact ⟨⟨_, HLAT.out⟩, rfl⟩); intro K hK; go_simp; (with_reducible refine hK _ ?_); clear hK K)
          ((refine takeQ (i := 48) (by rfl) (by kernel_rfl) (by kernel_rfl) (by kernel_rfl) ?_ ?_ ?_); (focus exact fun _ _ _ _ h => h); (focus exact ⟨⟨_, HLAT.out⟩, rfl⟩); intro K hK; go_simp; (with_reducible refine hK _ ?_); clear hK K)
          ((refine takeQ (i := 49) (by rfl) (by kernel_rfl) (by kernel_rfl) (by kernel_rfl) ?_ ?_ ?_); (focus exact fun _ _ _ _ h => h); (focus exact ⟨⟨_, HLAT.out⟩, rfl⟩); intro K hK; go_simp; (with_reducible refine hK _ ?_); clear hK K)
          ((refine takeQ (i := 50) (by rfl) (by kernel_rfl) (by kernel_rfl) (by kernel_rfl) ?_ ?_ ?_); (focus exact fun _ _ _ _ h => h); (focus exact ⟨⟨_, HLAT.out⟩, rfl⟩); intro K hK; go_simp; (with_reducible refine hK _ ?_); clear hK K)
          ((refine takeQ (i := 51) (by rfl) (by kernel_rfl) (by kernel_rfl) (by kernel_rfl) ?_ ?_ ?_); (focus exact fun _ _ _ _ h => h); (focus exact ⟨⟨_, HLAT.out⟩, rfl⟩); intro K hK; go_simp; (with_reducible refine hK _ ?_); clear hK K)
          ((refine takeQ (i := 52) (by rfl) (by kernel_rfl) (by kernel_rfl) (by kernel_rfl) ?_ ?_ ?_); (focus exact fun _ _ _ _ h => h); (focus exact ⟨⟨_, HLAT.out⟩, rfl⟩); intro K hK; go_simp; (with_reducible refine hK _ ?_); clear hK K)
          refine hall1 (i := 44) (by kernel_rfl) (by rfl) (fun K hK => ?_)
          go_simp
          refine (put_any r _ hr1 hr2).mono ?_
          rintro e w4 ⟨A4, c4, rfl, hR4, hb4⟩
          have HL4 : Aside0 (Below w3.heap.size w3 w4) := ⟨below_join HLAT.out hb4⟩
          have hcv4 := Kd.C_string (P := Tryd.prog) Tryd.underlying22 Tryd.underlying5 Tryd.underlying9 (c := c4) (Kd.R_reads' hR4).2.2
          clear hR4 hb4
          refine hK _ _ ⟨⟨_, HL4.out⟩, rfl⟩ ?_
          clear hK K
          refine hall1 (i := 45) (by kernel_rfl) (by rfl) (fun K hK => ?_)
          go_simp
          refine hK _ _ ⟨⟨_, HL4.out⟩, rfl⟩ ?_
          clear hK K
          ((refine takeQ (i := 53) (by rfl) (by kernel_rfl) (by kernel_rfl) (by kernel_rfl) ?_ ?_ ?_); (focus exact fun _ _ _ _ h => h); (focus exact ⟨⟨_, HL4.out⟩, rfl⟩); intro K hK; go_simp; (with_reducible refine hK _ ?_); clear hK K)
          ((refine takeQ (i := 54) (by rfl) (by kernel_rfl) (by kernel_rfl) (by kernel_rfl) ?_ ?_ ?_); (focus exact fun _ _ _ _ h => h); (focus exact ⟨⟨_, HL4.out⟩, rfl⟩); intro K hK; go_simp; (with_reducible refine hK _ ?_); clear hK K)
          ((refine takeQ (i := 55) (by rfl) (by kernel_rfl) (by kernel_rfl) (by kernel_rfl) ?_ ?_ ?_); (focus exact fun _ _ _ _ h => h); (focus exact ⟨⟨_, HL4.out⟩, rfl⟩); intro K hK; go_simp; (with_reducible refine hK _ ?_); clear hK K)
          ((refine takeQ (i := 56) (by rfl) (by kernel_rfl) (by kernel_rfl) (by kernel_rfl) ?_ ?_ ?_); (focus exact fun _ _ _ _ h => h); (focus exact ⟨⟨_, HL4.out⟩, rfl⟩); intro K hK; go_simp; (with_reducible refine hK _ ?_); clear hK K)
          refine wpAnyH_done (by kernel_rfl) ?_ _
          have z2 : w4.cell? ⟨gq, 2, none⟩ = some (.int .i64 (↑p + ↑n)) := q2 ⟨w4, HL4.out⟩
          clear q0 q1 q2 q3 q4 hcv2 hcv4 hcut
          rw [← hund]
          clear hund
          go_wp2
          go_roundw
          case rel => exact ⟨k + 1, p + n, .inl rfl, by go_num, by go_num, by omega, by omega, HCN, ⟨below_join HB3.out HL4.out⟩, ⟨below_join HW3.out HL4.out⟩⟩
          case measure => simp [intOf]; omega
      · have hpe := HP.out.over hlt
        subst hpe
        go_wp2_with fail
        refine (told_any _ (Utf8Tabs_below HT.out HB.out)).mono ?_
        rintro e w3 ⟨rfl, hb3⟩
        have HB3 := Aside0.mk (HB.out.trans (hb3.mono HB.out.size))
        go_wp2_with fail
        go_ret
        exact ⟨rfl, HB3.out⟩
  · go_enter Tryd.func6, Tryd.ntmps6
    go_wp2_with fail
    refine (told_any w HT.out).mono ?_
    rintro e w1 ⟨rfl, hb1⟩
    go_wp2_with fail
    go_ret
    exact ⟨rfl, hb1⟩
end Go.Proofs.YtlopjkfhkfbhlaaDoor.Dec
