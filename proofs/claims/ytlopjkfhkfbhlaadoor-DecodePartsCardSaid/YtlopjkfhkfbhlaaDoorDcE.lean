import Derived.Test.YtlopjkfhkfbhlaaDoorDcD
import Derived.RegionTactic
import Derived.Deep.RegionLaw
import Derived.ChangeAlike
set_option linter.unusedVariables false
set_option linter.unusedSimpArgs false
namespace Go.Proofs.YtlopjkfhkfbhlaaDoor.Dec
open Go Go.RowKit Go.Proofs.YtlopjkfhkfbhlaaDoorW.PrintWords Go.Proofs.YtlopjkfhkfbhlaaDoorW.PrintLast Go.Proofs.YtlopjkfhkfbhlaaDoorW.PrintMore
structure Item where
  r : Int
  from_ : Int
  to_ : Int
  bad : Bool
  more : Bool
deriving DecidableEq
def kItem : Kd Item := Kd.iso (Kd.pair (Kd.int .i32) (Kd.pair (Kd.int .i64) (Kd.pair (Kd.int .i64) (Kd.pair Kd.bool Kd.bool)))) (fun x => (x.r, x.from_, x.to_, x.bad, x.more))
def Item.cells (x : Item) : List Value := [.int .i32 x.r, .int .i64 x.from_, .int .i64 x.to_, .bool x.bad, .bool x.more]
theorem kItem_open {w : World} {x : Item} {cs : List Value} (h : kItem.K w x cs) : cs = x.cells := by
  obtain ⟨_, _, rfl, rfl, ⟨_, _, rfl, rfl, ⟨_, _, rfl, rfl, ⟨_, _, rfl, rfl, rfl⟩⟩⟩⟩ := h
  rfl
theorem kItem_mkM (w : World) (base : Nat) (ok : Nat → Prop) (x : Item) : kItem.M w base ok x x.cells :=
  ⟨[.int .i32 x.r], _, rfl, rfl, ⟨[.int .i64 x.from_], _, rfl, rfl, ⟨[.int .i64 x.to_], _, rfl, rfl, ⟨[.bool x.bad], [.bool x.more], rfl, rfl, rfl⟩⟩⟩⟩
theorem info_item : (Tryd.prog.info? 36).map (fun i => (i.zero, i.size, i.bytes)) = some (some (.agg #[(.int .i32 0), (.int .i64 0), (.int .i64 0), (.bool false), (.bool false)]), 5, 32) := by kernel_rfl

section
variable {P : Program} {ops : Array Oper} {o : Oper} {a : Act} {Q : Exit → Act → World → Prop} {Kc : Act → World → Prop} {α : Type}
theorem R_append_step' (d : Kd α) {w0 W : World} (base : Nat) (hw : Region.wanted o (yielded ops a.tmps) = true) (s x : Operand) (t e : TypeId) (z : Value) (bytes : Nat)
    (ho : o.op = .call { callee := .builtin .append, args := #[s, x], argTypes := #[t, t] })
    (ht : P.underlying t = some (.slice e)) (hinfo : (P.info? e).map (fun i => (i.zero, i.size, i.bytes)) = some (some z, d.sz, bytes)) (hz : z.cells.size = d.sz) (hs0 : 0 < d.sz) (hb0 : 0 < bytes)
    (v : Value) (xs : List α) (p : α) (cs : List Value) (ok okp : Nat → Prop) (hs : a.eval s = v) (hx : a.eval x = .slice (some ⟨W.heap.size, 0, none⟩) 1 1) (hp : d.M W base okp p cs) (hokp : ∀ k, okp k → ok k ∧ some k ≠ v.ownBlock) (hfresh : ∀ k, W.heap.size ≤ k → ok k)
    (HO : d.R e W base ok v xs) (HB : Below base w0 W) (hbase : base ≤ W.heap.size) (hl : (xs.length + 1) * bytes ≤ 140737488355328)
    (h : ∀ A1 c1 w1, d.R e w1 base ok (.slice A1 (xs.length + 1) c1) (xs ++ [p]) → Below base w0 w1 → W.grownBy w1 v.ownBlock → ((Value.slice A1 (xs.length + 1) c1).ownBlock = v.ownBlock ∨ ∃ b, (Value.slice A1 (xs.length + 1) c1).ownBlock = some b ∧ W.heap.size ≤ b) → Kc (a.put o.dst (.slice A1 (xs.length + 1) c1)) w1) :
    if Region.wanted o (yielded ops a.tmps) = true then Oper.wp P o a (W.alloc (.cells cs.toArray e)) Kc Q else Kc (a.put o.dst undef) (W.alloc (.cells cs.toArray e)) := by
  refine Kd.R_append_step d base hw s x t e z bytes ho ht hinfo hz hs0 hb0 v xs p cs ok okp hs hx hp hokp hfresh HO HB hbase hl ?_
  intro v1 w1 hR hB hG hN
  obtain ⟨A1, c1, rfl⟩ := Kd.R_slice hR
  rw [List.length_append, List.length_singleton] at *
  exact h A1 c1 w1 hR hB hG hN
end
/-- what a Dec at block g holds; all that may be written lies from block B on -/
structure IsDec (W : World) (B g : Nat) (held : List Int) (at_ : Int) (cl : Bool) (v3 : Value) (out : List Item) : Prop where
  ex : ∃ A c, W.heap[g]? = some (.cells #[.slice A held.length c, .int .i64 at_, .bool cl, v3] 51 (0, 0)) ∧ (Kd.int .u8).R 5 W B (fun _ => True) (.slice A held.length c) held
  ge : B ≤ g
  le : B ≤ W.heap.size
  out_ : kItem.R 36 W B (fun _ => True) v3 out
/-- which blocks a call on the Dec may write -/
def MayDec (g : Nat) (v3 : Value) (k : Nat) : Prop := k = g ∨ some k = v3.ownBlock

set_option maxHeartbeats 1000000 in
set_option maxRecDepth 100000 in
theorem tell_any (B g : Nat) (v3 : Value) (held : List Int) (at_ : Int) (cl bad more : Bool) (out : List Item) (r : Int) (w : World)
    (hD : IsDec w B g held at_ cl v3 out) (hn : held.length ≤ 1000) (ha : 0 ≤ at_) (ha' : at_ ≤ 4611686018427387904) (ho : out.length ≤ 1000000000)
    (hbad : bad = true ∧ r = 65533 ∨ bad = false ∧ Whole held ∧ Tabs w ∧ r = runeOf held) :
    Calls Tryd.prog 25 #[.pointer (some ⟨g, 0, none⟩), .bool bad, .bool more] w fun e w' => e = .returned (.tuple #[]) ∧
      ∃ v3', IsDec w' B g [] (at_ + held.length) cl v3' (out ++ [⟨r, at_, at_ + held.length, bad, more⟩]) ∧ (v3'.ownBlock = v3.ownBlock ∨ ∃ b, v3'.ownBlock = some b ∧ w.heap.size ≤ b) ∧ Below B w w' ∧ Kept w w' (MayDec g v3) := by
  obtain ⟨⟨A, c, hb, hR0⟩, hge, hle, hR3⟩ := hD
  have hb' : ∀ o, (w.alloc o).heap[g]? = _ := fun o => blk_alloc hb o
  have c0 : w.cell? ⟨g, 0, none⟩ = some (.slice A held.length c) := (blk_cell hb 0).trans rfl
  have c1 : w.cell? ⟨g, 1, none⟩ = some (.int .i64 at_) := (blk_cell hb 1).trans rfl
  have d0 : ∀ o, (w.alloc o).cell? ⟨g, 0, none⟩ = some (.slice A held.length c) := fun o => (blk_cell (hb' o) 0).trans rfl
  have d1 : ∀ o, (w.alloc o).cell? ⟨g, 1, none⟩ = some (.int .i64 at_) := fun o => (blk_cell (hb' o) 1).trans rfl
  clear hb'
  have HB := Aside0.mk hb
  have HR0 := Aside0.mk hR0
  have HR3 := Aside0.mk hR3
  have HBAD := Aside0.mk hbad
  clear hb hR0 hR3 hbad
  go_enter Tryd.func25, Tryd.ntmps25
  go_wp2
  go_region
  go_upto_if 25 with (fail)
  go_cut [6] (fun v6 W => ∃ b, v6 = .pointer (some ⟨b, 0, none⟩) ∧ Aside0 (W.heap[b]? = some (.cells #[.int .i32 r, .int .i64 at_, .int .i64 (at_ + held.length), .bool bad, .bool more] 36 (0, 0)) ∧ w.heap.size ≤ b ∧ Below w.heap.size w W))
  case first =>
    have hg : g < w.heap.size := World.block_lt_of_cell? w _ c0
    rcases HBAD.out with ⟨rfl, rfl⟩ | ⟨rfl, hw, hT, rfl⟩
    · clear HBAD
      go_wp2
      go_meet
      case rel => exact ⟨_, rfl, ⟨blk_new w _, Nat.le_refl _, below_drew (below_alloc (Below.refl _ _) _)⟩⟩
    · clear HBAD
      have HW := Aside0.mk hw
      have HT := Aside0.mk hT
      clear hw hT
      go_wp2_with (go_at_call 29; refine (rune_any A held _ _ ?cC ?cT HW.out).mono ?_; (case cC => exact Kd.C_below (Kd.R_reads' HR0.out).2.2 (below_drew (below_alloc (Below.refl _ _) _))); (case cT => exact Utf8Tabs_below HT.out (below_drew (below_alloc (Below.refl _ _) _))); rintro e w1 ⟨rfl, hb⟩; have hx := Aside0.mk ((hb.block _ (by simp)).trans (blk_new w _)); have cx : w1.cell? ⟨w.heap.size, 0, none⟩ = some (.int .i32 65533) := (blk_cell hx.out 0).trans rfl; have fx := blk_frozen hx.out 0)
      go_meet
      case rel => exact ⟨_, rfl, ⟨blk_put hx.out 0 _ rfl, Nat.le_refl _, (below_then (below_drew (below_alloc (Below.refl _ _) _)) (by simp) hb).setCell (Nat.le_refl _) _⟩⟩
  case rest =>
    obtain ⟨b, rfl, ⟨hbox, hwb, hbW⟩⟩ := hcut
    have hg : g < w.heap.size := blk_lt HB.out
    have hgb : g ≠ b := by omega
    have hb1 : wc.heap[g]? = _ := (hbW.block g hg).trans HB.out
    have e3 : wc.cell? ⟨g, 3, none⟩ = some v3 := (blk_cell hb1 3).trans rfl
    have x0 : wc.cell? ⟨b, 0, none⟩ = some (.int .i32 r) := (blk_cell hbox 0).trans rfl
    have x1 : wc.cell? ⟨b, 1, none⟩ = some (.int .i64 at_) := (blk_cell hbox 1).trans rfl
    have x2 : wc.cell? ⟨b, 2, none⟩ = some (.int .i64 (at_ + held.length)) := (blk_cell hbox 2).trans rfl
    have x3 : wc.cell? ⟨b, 3, none⟩ = some (.bool bad) := (blk_cell hbox 3).trans rfl
    have x4 : wc.cell? ⟨b, 4, none⟩ = some (.bool more) := (blk_cell hbox 4).trans rfl
    have hgn : some g ≠ v3.ownBlock := Kd.R_ne HR3.out HB.out (by decide)
    have hbn : some b ≠ v3.ownBlock := fun e => by have := Kd.R_lt HR3.out b e.symm; omega
    have hgc : g < wc.heap.size := blk_lt hb1
    have hbc : b < wc.heap.size := blk_lt hbox
    have HR3' := Aside0.mk (Kd.R_below HR3.out hbW)
    have HB1 := Aside0.mk hb1
    have HBX := Aside0.mk hbox
    have HBW := Aside0.mk hbW
    clear hb1 hbox hbW c0 c1 d0 d1 HBAD
    go_upto_region 3 with (fail)
    go_cut [42] (fun v42 W => ∃ A1 n1, Aside0 (W.heap[g]? = some (.cells #[.slice A held.length c, .int .i64 at_, .bool cl, .slice A1 (out.length + 1) n1] 51 (0, 0)) ∧ W.heap[b]? = some (.cells #[.int .i32 r, .int .i64 at_, .int .i64 (at_ + held.length), .bool bad, .bool more] 36 (0, 0)) ∧
      kItem.R 36 W B (fun _ => True) (.slice A1 (out.length + 1) n1) (out ++ [⟨r, at_, at_ + held.length, bad, more⟩]) ∧ ((Value.slice A1 (out.length + 1) n1).ownBlock = v3.ownBlock ∨ ∃ k, (Value.slice A1 (out.length + 1) n1).ownBlock = some k ∧ w.heap.size ≤ k) ∧ Below B w W ∧ Kept w W (MayDec g v3)))
    case first =>
      go_wp2
      go_region_law (refine R_append_step' kItem (w0 := wc) (W := wc.drew) B ?hw (.tmp 39) (.tmp 41) 25 36 (.agg #[(.int .i32 0), (.int .i64 0), (.int .i64 0), (.bool false), (.bool false)]) 32 rfl ?ht info_item ?hz ?hs0 ?hb0 v3 out ⟨r, at_, at_ + held.length, bad, more⟩ _ (fun _ => True) (fun _ => False) rfl rfl (kItem_mkM _ _ _ _) (fun _ h => h.elim) (fun _ _ => trivial) HR3'.out ?hB ?hbase ?hl ?_; (case hw => rfl); (case ht => exact Tryd.underlying25); (case hz => rfl); (case hs0 => decide); (case hb0 => decide); (case hB => exact below_drew (Below.refl _ _)); (case hbase => exact Nat.le_trans hle HBW.out.size); (case hl => omega); intro A1 n1 w1 hR1 hB1 hG1 hN1; have HG := Aside0.mk ((hG1.block g hgc hgn).trans HB1.out); have HX := Aside0.mk ((hG1.block b hbc hbn).trans HBX.out); have ce3 : w1.cell? ⟨g, 3, none⟩ = some v3 := (blk_cell HG.out 3).trans rfl; have fr3 := blk_frozen HG.out 3; have ce0 : w1.cell? ⟨g, 0, none⟩ = some (.slice A held.length c) := (blk_cell HG.out 0).trans rfl; have fr0 := blk_frozen HG.out 0; have ce1 : w1.cell? ⟨g, 1, none⟩ = some (.int .i64 at_) := (blk_cell HG.out 1).trans rfl; have fr1 := blk_frozen HG.out 1; have cx2 : w1.cell? ⟨b, 2, none⟩ = some (.int .i64 (at_ + held.length)) := (blk_cell HX.out 2).trans rfl)
      all_goals
        go_wp2
        go_meet
        case rel => exact ⟨_, _, ⟨blk_put HG.out 3 _ rfl, blk_far HX.out (Ne.symm hgb) _, Kd.R_set hR1 HG.out (by decide) _ _, hN1.imp id (fun ⟨k, h1, h2⟩ => ⟨k, h1, Nat.le_trans HBW.out.size h2⟩), (HBW.out.mono (Nat.le_trans hle (Nat.le_refl _)) |>.trans hB1).setCell hge _, ((Kept.of_below HBW.out _).then_ (Kept.of_grown hG1 (Kept.refl _ (fun k => some k = v3.ownBlock)) (fun k hk => .inl hk.symm)) (fun k hk => .inl (.inr hk))).setCell (.inl (.inl rfl)) _⟩⟩
    case rest =>
      obtain ⟨A1, n1, HE⟩ := hcut
      clear e3 x0 x1 x2 x3 x4
      have ce0 : wc.cell? ⟨g, 0, none⟩ = some (.slice A held.length c) := (blk_cell HE.out.1 0).trans rfl
      have ce1 : wc.cell? ⟨g, 1, none⟩ = some (.int .i64 at_) := (blk_cell HE.out.1 1).trans rfl
      have fr0 := blk_frozen HE.out.1 0
      have fr1 := blk_frozen HE.out.1 1
      have cx2 : wc.cell? ⟨b, 2, none⟩ = some (.int .i64 (at_ + held.length)) := (blk_cell HE.out.2.1 2).trans rfl
      go_wp2
      go_region
      all_goals
        go_wp2
        go_end0
        have hb1 := blk_put HE.out.1 0 (.slice none 0 0) rfl
        obtain ⟨_, hX, hR, hA, hB, hK⟩ := HE.out
        exact ⟨rfl, _, ⟨⟨none, 0, blk_drew (blk_put hb1 1 _ rfl), Kd.R_nil _ _ _ _ _⟩, hge, by simpa [World.setCell] using Nat.le_trans hle hB.size, Kd.R_drew (Kd.R_set (Kd.R_set hR HE.out.1 (by decide) _ _) hb1 (by decide) _ _)⟩, hA, below_drew ((hB.setCell hge _).setCell hge _), (((hK.setCell (.inl (.inl rfl)) _).setCell (.inl (.inl rfl)) _).drew)⟩
end Go.Proofs.YtlopjkfhkfbhlaaDoor.Dec
