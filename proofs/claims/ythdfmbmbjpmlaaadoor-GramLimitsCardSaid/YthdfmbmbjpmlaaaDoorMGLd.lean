/- texts of this claim, one behind the other: GsF, GsG, GrO, GsT, GsL, GsM, GsN, GsP, GsO -/
import Derived.Test.YthdfmbmbjpmlaaaDoorMGLc
import Derived.Test.YthdfmbmbjpmlaaaDoorMGLa
import Derived.Test.YthdfmbmbjpmlaaaDoorRows
import Derived.Lib.LaidU8T
import Derived.LaidOnce
import Derived.Lay
import Derived.OpenShut
import Derived.SizedLaws
import Derived.ProofKit
import Derived.SevenTiedAt
/- rows of one's own that share what their elements lead to: words. -/
set_option linter.unusedVariables false
set_option linter.unusedSimpArgs false
namespace Go.Proofs.YthdfmbmbjpmlaaaDoor.Rn
open Go Go.RowKit Go.Proofs.YthdfmbmbjpmlaaaDoorW.PrintWords Go.Proofs.YthdfmbmbjpmlaaaDoorW.PrintLast Go.Proofs.YthdfmbmbjpmlaaaDoorW.PrintMore
/-- an empty literal -/
theorem n_empty {α : Type} (k : Kd α) (e : TypeId) {W : World} {b base : Nat} {ok : Nat → Prop} {t : TypeId} (h : W.heap[b]? = some (.cells #[] t (0, 0))) (he : e = t) (hb : base ≤ b) (hok : ok b) :
    Kd.N k e W base ok (.slice (some ⟨b, 0, none⟩) 0 0) [] := by
  subst he
  refine ⟨fun q hq => ?_, [], rfl, ⟨fun q hq => hq.symm, [], ⟨by simp, Or.inr ⟨b, 0, #[], rfl, hb, h, Nat.le_refl _, by unfold maxLen; omega, by simp, by simp⟩⟩, Reps.none _ _⟩, fun j x c hx _ => by simp at hx⟩
  have hq : some b = some q := hq
  injection hq with hq
  exact hq ▸ hok
/-- a row of one element in a block of its own -/
theorem f_one {α : Type} {k : Kd α} {W : World} {b : Nat} {ok : Nat → Prop} {x : α} {c : List Value} {t : TypeId} {cs : Array Value} (h : W.heap[b]? = some (.cells cs t (0, 0))) (hcs : cs = c.toArray) (hK : Kd.FK k W ok x c) :
    Kd.F k W (fun q => q = b ∨ ok q) (some ⟨b, 0, none⟩) 1 [x] := fun W' hW => by
  have h2 := (hW b (Or.inl rfl) (blk_lt h)).trans h
  have hK2 := hK W' (fun q hq => hW q (Or.inr hq))
  refine row_new h2 (show 1 ≤ _ from by omega) (fun j y hy => ?_)
  match j, hy with
  | 0, hy =>
    obtain rfl := Option.some.inj hy
    refine ⟨c, k.K_len hK2, hK2, fun i u hu => ?_⟩
    rw [hcs]
    simpa using hu
  | j + 1, hy => simp at hy
/-- a row of one's own of one element: a literal -/
theorem n_one {α : Type} {k : Kd α} {e : TypeId} {W : World} {b base : Nat} {ok okp : Nat → Prop} {x : α} {c : List Value} {t : TypeId} {cs : Array Value} (h : W.heap[b]? = some (.cells cs t (0, 0))) (hcs : cs = c.toArray) (he : e = t) (hK : Kd.FK k W okp x c) (hb : base ≤ b) (hok : ok b) (hop : ∀ q, okp q → ok q ∧ q ≠ b) :
    Kd.N k e W base ok (.slice (some ⟨b, 0, none⟩) 1 1) [x] := by
  subst he
  subst hcs
  have hl := k.K_len (Kd.FK_now hK)
  have ho := k.K_one (Kd.FK_now hK)
  have ow : (Value.slice (some ⟨b, 0, none⟩) 1 1).ownBlock = some b := rfl
  refine ⟨fun q hq => ?_, [c], rfl, ⟨fun q hq => hq.symm, c, ⟨by simpa [Kd.raw] using hl, Or.inr ⟨b, 1, c.toArray, rfl, hb, h, Nat.le_refl _, by unfold maxLen; omega, by simpa [Kd.raw] using hl, by simp [Kd.raw]; rw [List.take_of_length_le (by omega)]⟩⟩, ⟨by simpa [Kd.raw] using hl, fun j p hp => ?_⟩⟩, fun j y d hy hd => ?_⟩
  · rw [ow] at hq
    injection hq with hq
    exact hq ▸ hok
  · match j, hp with
    | 0, hp =>
      obtain rfl := Option.some.inj hp
      refine ⟨?_, ?_, ?_⟩
      · simp [Kd.raw]
        exact List.take_of_length_le (by omega)
      · simp [Kd.raw]
        omega
      · intro u hu
        exact ho u (List.mem_of_mem_drop (List.mem_of_mem_take hu))
    | j + 1, hp => simp at hp
  · match j, hy, hd with
    | 0, hy, hd =>
      obtain rfl := Option.some.inj hy
      obtain rfl := Option.some.inj hd
      exact Kd.FK_mono hK (fun q hq => ⟨(hop q hq).1, by rw [ow]; simpa using (hop q hq).2⟩)
    | j + 1, hy, hd => simp at hy
end Go.Proofs.YthdfmbmbjpmlaaaDoor.Rn
/- gram.May; what Check comes to, given. -/
set_option linter.unusedVariables false
set_option linter.unusedSimpArgs false
namespace Go.Proofs.YthdfmbmbjpmlaaaDoor.Rn
open Go Go.RowKit Go.Proofs.YthdfmbmbjpmlaaaDoorW.PrintWords Go.Proofs.YthdfmbmbjpmlaaaDoorW.PrintLast Go.Proofs.YthdfmbmbjpmlaaaDoorW.PrintMore
/-- what Check tells of a grammar -/
def ChkC (T : List Tok) (R : List Rul) (c n : Int) : Prop := ∀ (AT : Option Addr) (ct : Nat) (AR : Option Addr) (cr : Nat) (W : World), kTok.C W AT T.length T → kRul.C W AR R.length R → OwnAt W →
    Calls Tryd.prog 15 #[.agg #[.slice AT T.length ct, .slice AR R.length cr]] W fun e W' => e = .returned (.tuple #[.int .i64 c, .int .i64 n]) ∧ Below W.heap.size W W'
set_option maxHeartbeats 1000000 in
set_option maxRecDepth 100000 in
theorem gmay_any (T : List Tok) (R : List Rul) (c n : Int) (hC : ChkC T R c n) (AT : Option Addr) (ct : Nat) (AR : Option Addr) (cr : Nat) (W : World) (hT : kTok.C W AT T.length T) (hR : kRul.C W AR R.length R) (hO : OwnAt W) :
    Calls Tryd.prog 7 #[.agg #[.slice AT T.length ct, .slice AR R.length cr]] W fun e W' => e = .returned (.bool (c == 0)) ∧ Below W.heap.size W W' := by
  have HC := Aside0.mk hC
  have HG := Aside0.mk (And.intro hT (And.intro hR hO))
  clear hC hT hR hO
  go_enter Tryd.func7, Tryd.ntmps7
  go_wp2_with fail
  refine (HC.out AT ct AR cr _ (Kd.C_below HG.out.1 (below1 W _)) (Kd.C_below HG.out.2.1 (below1 W _)) (Kd.C_below HG.out.2.2 (below1 W _))).mono ?_
  rintro e w2 ⟨rfl, hb⟩
  have HB := Aside0.mk (join_below (below1 W _) hb)
  clear hb
  go_wp2
  go_ret
  exact ⟨rfl, HB.out⟩
end Go.Proofs.YthdfmbmbjpmlaaaDoor.Rn
/- gobolaw11.Make of nothing. -/
set_option linter.unusedVariables false
set_option linter.unusedSimpArgs false
namespace Go.Proofs.YthdfmbmbjpmlaaaDoor.Rn
open Go Go.RowKit Go.Proofs.YthdfmbmbjpmlaaaDoorW.PrintWords Go.Proofs.YthdfmbmbjpmlaaaDoorW.PrintLast Go.Proofs.YthdfmbmbjpmlaaaDoorW.PrintMore
set_option maxHeartbeats 4000000 in
set_option maxRecDepth 100000 in
theorem make_nil (W : World) :
    Calls Tryd.prog 6 #[.slice none 0 0] W fun e W' => ∃ v, e = .returned (.agg #[v, .slice none 0 0]) ∧ Kd.N kTok 50 W' W.heap.size (fun k => W.heap.size ≤ k) v madeT ∧ Below W.heap.size W W' := by
  go_enter Tryd.func6, Tryd.ntmps6
  go_wp2_with fail
  refine (one_any 99 _).mono ?_
  rintro e w1 ⟨a1, c1, A2, c2, X1, rfl, hl1, hC1, hX1, hC2, n1, n2, hb⟩
  have N1 : Aside0 (W.heap.size < a1) := ⟨by simp at n1; omega⟩
  clear n1 n2
  have HB1 := Aside0.mk (join_below (below1 W _) hb)
  have HBLK := Aside0.mk ((hb.block W.heap.size (by simp)).trans (blk_new W _))
  have H1 := Aside0.mk (And.intro hl1 (And.intro hC1 (And.intro hX1 hC2)))
  clear hl1 hC1 hC2 hX1 hb
  go_wp2_with fail
  refine (one_any 100 _).mono ?_
  rintro e w2 ⟨b1, d1, B2, d2, Y1, rfl, hl1, hC1, hX1, hC2, n1, n2, hb⟩
  have N2 : Aside0 (W.heap.size < b1) := ⟨by have := blk_lt HBLK.out; omega⟩
  clear n1 n2
  have HB2 := Aside0.mk (join_below HB1.out hb)
  have HB12 := Aside0.mk hb
  have H2 := Aside0.mk (And.intro hl1 (And.intro hC1 (And.intro hX1 hC2)))
  clear hl1 hC1 hC2 hX1 hb
  go_wp2
  obtain ⟨w3, hw3⟩ : ∃ x, (w2.alloc (Obj.cells #[.int .i64 2, .slice (some ⟨a1, 0, none⟩) 1 c1, .slice A2 0 c2] 48)).alloc (Obj.cells #[.int .i64 2, .slice (some ⟨b1, 0, none⟩) 1 d1, .slice B2 0 d2] 48) = x := ⟨_, rfl⟩
  have hnb : w3.heap[w2.heap.size + 1]? = some (.cells #[.int .i64 2, .slice (some ⟨b1, 0, none⟩) 1 d1, .slice B2 0 d2] 48 (0, 0)) := by
    rw [← hw3]
    exact second w2 _ _ _
  have hna : w3.heap[w2.heap.size]? = some (.cells #[.int .i64 2, .slice (some ⟨a1, 0, none⟩) 1 c1, .slice A2 0 c2] 48 (0, 0)) := by
    rw [← hw3]
    exact blk_alloc (blk_new _ _) _
  have HB3 : Aside0 (Below w2.heap.size w2 w3) := ⟨hw3 ▸ below_alloc (below1 _ _) _⟩
  have q0 : ∀ p : Later w3, p.wx.cell? ⟨w2.heap.size, 0, none⟩ = some (.int .i64 2) := fun p => cell_after p.below ((blk_cell hna 0).trans rfl)
  have q1 : ∀ p : Later w3, p.wx.cell? ⟨w2.heap.size, 1, none⟩ = some (.slice (some ⟨a1, 0, none⟩) 1 c1) := fun p => cell_after p.below ((blk_cell hna 1).trans rfl)
  have q2 : ∀ p : Later w3, p.wx.cell? ⟨w2.heap.size, 2, none⟩ = some (.slice A2 0 c2) := fun p => cell_after p.below ((blk_cell hna 2).trans rfl)
  have r0 : ∀ p : Later w3, p.wx.cell? ⟨w2.heap.size + 1, 0, none⟩ = some (.int .i64 2) := fun p => cell_after p.below ((blk_cell hnb 0).trans rfl)
  have r1 : ∀ p : Later w3, p.wx.cell? ⟨w2.heap.size + 1, 1, none⟩ = some (.slice (some ⟨b1, 0, none⟩) 1 d1) := fun p => cell_after p.below ((blk_cell hnb 1).trans rfl)
  have r2 : ∀ p : Later w3, p.wx.cell? ⟨w2.heap.size + 1, 2, none⟩ = some (.slice B2 0 d2) := fun p => cell_after p.below ((blk_cell hnb 2).trans rfl)
  have HW3 : Aside0 (W.heap.size < w3.heap.size) := ⟨blk_lt (blk_below (blk_below HBLK.out HB12.out) HB3.out)⟩
  obtain ⟨wd, hwd⟩ : ∃ x, w3.drew = x := ⟨_, rfl⟩
  have HLAT : Aside0 (Below w3.heap.size w3 wd) := ⟨hwd ▸ below_drew1 (Below.refl _ _)⟩
  rw [hw3]
  clear hw3 hna hnb
  have hund : undef = Value.tuple #[] := rfl
  refine wp_region_held (S := fun w' => ∃ p : Later w3, w' = p.wx) (by kernel_rfl) ?_
  change wpAnyH _ _ _ _ _ _ _ _ (World.drew _)
  rw [hwd]
  clear hwd
  ((refine takeQ (i := 2) (by rfl) (by kernel_rfl) (by kernel_rfl) (by kernel_rfl) ?_ ?_ ?_); (focus exact fun _ _ _ _ h => h); (focus exact ⟨⟨_, HLAT.out⟩, rfl⟩); intro K hK; go_simp; (with_reducible refine hK _ ?_); clear hK K)
  ((refine takeQ (i := 3) (by rfl) (by kernel_rfl) (by kernel_rfl) (by kernel_rfl) ?_ ?_ ?_); (focus exact fun _ _ _ _ h => h); (focus exact ⟨⟨_, HLAT.out⟩, rfl⟩); intro K hK; go_simp; (with_reducible refine hK _ ?_); clear hK K)
  ((refine takeQ (i := 7) (by rfl) (by kernel_rfl) (by kernel_rfl) (by kernel_rfl) ?_ ?_ ?_); (focus exact fun _ _ _ _ h => h); (focus exact ⟨⟨_, HLAT.out⟩, rfl⟩); intro K hK; go_simp; (with_reducible refine hK _ ?_); clear hK K)
  ((refine takeQ (i := 8) (by rfl) (by kernel_rfl) (by kernel_rfl) (by kernel_rfl) ?_ ?_ ?_); (focus exact fun _ _ _ _ h => h); (focus exact ⟨⟨_, HLAT.out⟩, rfl⟩); intro K hK; go_simp; (with_reducible refine hK _ ?_); clear hK K)
  ((refine takeQ (i := 9) (by rfl) (by kernel_rfl) (by kernel_rfl) (by kernel_rfl) ?_ ?_ ?_); (focus exact fun _ _ _ _ h => h); (focus exact ⟨⟨_, HLAT.out⟩, rfl⟩); intro K hK; go_simp; (with_reducible refine hK _ ?_); clear hK K)
  ((refine takeQ (i := 10) (by rfl) (by kernel_rfl) (by kernel_rfl) (by kernel_rfl) ?_ ?_ ?_); (focus exact fun _ _ _ _ h => h); (focus exact ⟨⟨_, HLAT.out⟩, rfl⟩); intro K hK; go_simp; (with_reducible refine hK _ ?_); clear hK K)
  clear q0 q1 q2 r0 r1 r2
  refine hall3 (i := 0) (j := 4) (k := 13) (by kernel_rfl) (by rfl) (by rfl) (by rfl) (fun K hK => ?_) (fun K hK => ?_) (fun K hK => ?_)
  · go_simp
    refine (one_any 97 _).mono ?_
    rintro e v1 ⟨a0, c0, E0, e0, X0, rfl, f1, f2, fX, f3, f4, f5, hb⟩
    have G0 := Aside0.mk f5
    have GW : Aside0 (W.heap.size < a0) := ⟨by have h1 := HW3.out; have h2 := HLAT.out.size; omega⟩
    have ST := Aside0.mk hb
    have HV1 : Aside0 (Below w3.heap.size w3 v1) := ⟨join_below HLAT.out hb⟩
    have F0 := Aside0.mk (And.intro f2 (And.intro fX (And.intro f3 f1)))
    clear f1 f2 f3 f4 f5 fX hb
    refine hK _ _ ⟨⟨_, HV1.out⟩, rfl⟩ ?_
    clear hK K ST
    ((refine takeQ (i := 1) (by rfl) (by kernel_rfl) (by kernel_rfl) (by kernel_rfl) ?_ ?_ ?_); (focus exact fun _ _ _ _ h => h); (focus exact ⟨⟨_, HV1.out⟩, rfl⟩); intro K hK; go_simp; (with_reducible refine hK _ ?_); clear hK K)
    refine hall2 (i := 4) (j := 13) (by kernel_rfl) (by rfl) (by rfl) (fun K hK => ?_) (fun K hK => ?_)
    · go_simp
      obtain ⟨v2, hv⟩ : ∃ x, v1.alloc (Obj.cells #[.int .i32 10, .int .i32 10, .int .i32 98, .int .i32 98] 56) = x := ⟨_, rfl⟩
      rw [hv]
      obtain ⟨g4, hg⟩ : ∃ x, v1.heap.size = x := ⟨_, rfl⟩
      rw [hg]
      have F4 : Aside0 (v2.heap[g4]? = some (.cells #[.int .i32 10, .int .i32 10, .int .i32 98, .int .i32 98] 56 (0, 0))) := ⟨by rw [← hv, ← hg]; exact blk_new _ _⟩
      have GW4 : Aside0 (W.heap.size < g4) := ⟨by have h1 := HW3.out; have h2 := HV1.out.size; omega⟩
      have ST : Aside0 (Below v1.heap.size v1 v2) := ⟨hv ▸ below1 _ _⟩
      have HV2 : Aside0 (Below w3.heap.size w3 v2) := ⟨join_below HV1.out ST.out⟩
      clear hv hg
      have G0 := Aside0.mk (Nat.lt_of_lt_of_le G0.out ST.out.size)
      have F0 := Aside0.mk (And.intro (Kd.F_below F0.out.1 ST.out) (And.intro (blk_below F0.out.2.1 ST.out) F0.out.2.2))
      refine hK _ _ ⟨⟨_, HV2.out⟩, rfl⟩ ?_
      clear hK K ST
      ((refine takeQ (i := 5) (by rfl) (by kernel_rfl) (by kernel_rfl) (by kernel_rfl) ?_ ?_ ?_); (focus exact fun _ _ _ _ h => h); (focus exact ⟨⟨_, HV2.out⟩, rfl⟩); intro K hK; go_simp; (with_reducible refine hK _ ?_); clear hK K)
      ((refine takeQ (i := 6) (by rfl) (by kernel_rfl) (by kernel_rfl) (by kernel_rfl) ?_ ?_ ?_); (focus exact fun _ _ _ _ h => h); (focus exact ⟨⟨_, HV2.out⟩, rfl⟩); intro K hK; go_simp; (with_reducible refine hK _ ?_); clear hK K)
      refine hall2 (i := 11) (j := 13) (by kernel_rfl) (by rfl) (by rfl) (fun K hK => ?_) (fun K hK => ?_)
      · go_simp
        obtain ⟨v3, hv⟩ : ∃ x, v2.alloc (Obj.cells #[.string ⟨#[97]⟩, .int .i64 0, .int .i64 1, .int .i64 2, .slice (some ⟨a0, 0, none⟩) 1 c0, .slice E0 0 e0, .string ⟨#[98]⟩, .int .i64 0, .int .i64 2, .int .i64 2, .slice (some ⟨g4, 0, none⟩) 2 2, .slice none 0 0, .string ⟨#[111]⟩, .int .i64 1, .int .i64 3, .int .i64 2, .slice (some ⟨a1, 0, none⟩) 1 c1, .slice A2 0 c2, .string ⟨#[99]⟩, .int .i64 2, .int .i64 4, .int .i64 2, .slice (some ⟨b1, 0, none⟩) 1 d1, .slice B2 0 d2] 50) = x := ⟨_, rfl⟩
        rw [hv]
        obtain ⟨gR, hg⟩ : ∃ x, v2.heap.size = x := ⟨_, rfl⟩
        rw [hg]
        have F11 : Aside0 (v3.heap[gR]? = some (.cells #[.string ⟨#[97]⟩, .int .i64 0, .int .i64 1, .int .i64 2, .slice (some ⟨a0, 0, none⟩) 1 c0, .slice E0 0 e0, .string ⟨#[98]⟩, .int .i64 0, .int .i64 2, .int .i64 2, .slice (some ⟨g4, 0, none⟩) 2 2, .slice none 0 0, .string ⟨#[111]⟩, .int .i64 1, .int .i64 3, .int .i64 2, .slice (some ⟨a1, 0, none⟩) 1 c1, .slice A2 0 c2, .string ⟨#[99]⟩, .int .i64 2, .int .i64 4, .int .i64 2, .slice (some ⟨b1, 0, none⟩) 1 d1, .slice B2 0 d2] 50 (0, 0))) := ⟨by rw [← hv, ← hg]; exact blk_new _ _⟩
        have GW11 : Aside0 (W.heap.size < gR) := ⟨by have h1 := HW3.out; have h2 := HV2.out.size; omega⟩
        have ST : Aside0 (Below v2.heap.size v2 v3) := ⟨hv ▸ below1 _ _⟩
        have HV3 : Aside0 (Below w3.heap.size w3 v3) := ⟨join_below HV2.out ST.out⟩
        clear hv hg
        have G0 := Aside0.mk (Nat.lt_of_lt_of_le G0.out ST.out.size)
        have F0 := Aside0.mk (And.intro (Kd.F_below F0.out.1 ST.out) (And.intro (blk_below F0.out.2.1 ST.out) F0.out.2.2))
        have F4 := Aside0.mk (blk_below F4.out ST.out)
        refine hK _ _ ⟨⟨_, HV3.out⟩, rfl⟩ ?_
        clear hK K ST
        ((refine takeQ (i := 12) (by rfl) (by kernel_rfl) (by kernel_rfl) (by kernel_rfl) ?_ ?_ ?_); (focus exact fun _ _ _ _ h => h); (focus exact ⟨⟨_, HV3.out⟩, rfl⟩); intro K hK; go_simp; (with_reducible refine hK _ ?_); clear hK K)
        refine hall1 (i := 13) (by kernel_rfl) (by rfl) (fun K hK => ?_)
        go_simp
        obtain ⟨v4, hv⟩ : ∃ x, v3.alloc (Obj.cells #[.slice none 0 0, .slice none 0 0] 26) = x := ⟨_, rfl⟩
        rw [hv]
        obtain ⟨g13, hg⟩ : ∃ x, v3.heap.size = x := ⟨_, rfl⟩
        rw [hg]
        have F13 : Aside0 (v4.heap[g13]? = some (.cells #[.slice none 0 0, .slice none 0 0] 26 (0, 0))) := ⟨by rw [← hv, ← hg]; exact blk_new _ _⟩
        have GW13 : Aside0 (W.heap.size < g13) := ⟨by have h1 := HW3.out; have h2 := HV3.out.size; omega⟩
        have ST : Aside0 (Below v3.heap.size v3 v4) := ⟨hv ▸ below1 _ _⟩
        have HV4 : Aside0 (Below w3.heap.size w3 v4) := ⟨join_below HV3.out ST.out⟩
        have FN : Aside0 (a0 ≠ g13) := ⟨by have := G0.out; omega⟩
        have HGE : Aside0 (w3.heap.size ≤ g13) := ⟨hg ▸ HV3.out.size⟩
        clear hv hg
        have G0 := Aside0.mk (Nat.lt_of_lt_of_le G0.out ST.out.size)
        have F0 := Aside0.mk (And.intro (Kd.F_below F0.out.1 ST.out) (And.intro (blk_below F0.out.2.1 ST.out) F0.out.2.2))
        have F4 := Aside0.mk (blk_below F4.out ST.out)
        have F11 := Aside0.mk (blk_below F11.out ST.out)
        refine hK _ _ ⟨⟨_, HV4.out⟩, rfl⟩ ?_
        clear hK K ST
        have ne4 : g4 ≠ g13 := fun e => by have h := F4.out; rw [e, F13.out] at h; simp at h
        have neR : gR ≠ g13 := fun e => by have h := F11.out; rw [e, F13.out] at h; simp at h
        have y0 : World.cell? v4 ⟨g13, 0, none⟩ = some (.slice none 0 0) := (blk_cell F13.out 0).trans rfl
        have y1 : World.cell? v4 ⟨g13, 1, none⟩ = some (.slice none 0 0) := (blk_cell F13.out 1).trans rfl
        have z0 := blk_frozen F13.out 0
        have z1 := blk_frozen F13.out 1
        have hp1 := blk_put F13.out 0 (.slice (some ⟨gR, 0, none⟩) 4 4) rfl
        have y2 : (World.setCell v4 ⟨g13, 0, none⟩ (.slice (some ⟨gR, 0, none⟩) 4 4)).cell? ⟨g13, 1, none⟩ = some (.slice none 0 0) := (blk_cell hp1 1).trans rfl
        have z2 := blk_frozen hp1 1
        have hp2 := blk_put hp1 1 (.slice none 0 0) rfl
        obtain ⟨uf, huf⟩ : ∃ x, (World.setCell v4 ⟨g13, 0, none⟩ (.slice (some ⟨gR, 0, none⟩) 4 4)).setCell ⟨g13, 1, none⟩ (.slice none 0 0) = x := ⟨_, rfl⟩
        have HBF : Aside0 (Below w3.heap.size w3 uf) := ⟨huf ▸ (HV4.out.setCell HGE.out _).setCell HGE.out _⟩
        have f11 := blk_far (p := ⟨g13, 1, none⟩) (blk_far (p := ⟨g13, 0, none⟩) F11.out neR (.slice (some ⟨gR, 0, none⟩) 4 4)) neR (.slice none 0 0)
        have f4 := blk_far (p := ⟨g13, 1, none⟩) (blk_far (p := ⟨g13, 0, none⟩) F4.out ne4 (.slice (some ⟨gR, 0, none⟩) 4 4)) ne4 (.slice none 0 0)
        have f0 := Kd.F_far (p := ⟨g13, 1, none⟩) (Kd.F_far (p := ⟨g13, 0, none⟩) F0.out.1 (fun k hk => by rw [hk]; exact FN.out) (.slice (some ⟨gR, 0, none⟩) 4 4)) (fun k hk => by rw [hk]; exact FN.out) (.slice none 0 0)
        have fx := blk_far (p := ⟨g13, 1, none⟩) (blk_far (p := ⟨g13, 0, none⟩) F0.out.2.1 FN.out (.slice (some ⟨gR, 0, none⟩) 4 4)) FN.out (.slice none 0 0)
        rw [huf] at hp2 f11 f4 f0 fx
        have HF := Aside0.mk hp2
        have HX := Aside0.mk (And.intro f11 (And.intro f4 (And.intro f0 (And.intro fx F0.out.2.2))))
        clear hp2 f11 f4 f0 fx ne4 neR hp1
        refine hall1 (i := 14) (by kernel_rfl) (by rfl) (fun K hK => ?_)
        go_simp
        clear huf y0 y1 y2 z0 z1 z2 F0 F4 F11 F13
        refine hK _ _ ⟨⟨_, HBF.out⟩, rfl⟩ ?_
        clear hK K
        refine wpAnyH_done (by kernel_rfl) ?_ _
        go_wp2
        obtain ⟨wl, hwl⟩ : ∃ x, (uf.alloc (Obj.cells #[.string ⟨#[111]⟩] 9)).alloc (Obj.cells #[.string ⟨#[99]⟩] 9) = x := ⟨_, rfl⟩
        rw [hwl]
        have ST : Aside0 (Below uf.heap.size uf wl) := ⟨hwl ▸ below_alloc (below1 _ _) _⟩
        clear hwl
        go_loopw [8] (fun i w' => i = .int .i64 0 ∧ w' = wl) (fun _ _ => 0)
        case atStart => exact ⟨rfl, rfl⟩
        case round =>
          obtain ⟨rfl, hwr⟩ := hrel
          rw [hwr]
          clear hwr
          have hg := blk_below HF.out ST.out
          have y0 : wl.cell? ⟨g13, 0, none⟩ = some (.slice (some ⟨gR, 0, none⟩) 4 4) := (blk_cell hg 0).trans rfl
          have y1 : wl.cell? ⟨g13, 1, none⟩ = some (.slice none 0 0) := (blk_cell hg 1).trans rfl
          have hw := blk_below (blk_below (blk_below (blk_below HBLK.out HB12.out) HB3.out) HBF.out) ST.out
          have x0 : wl.cell? ⟨W.heap.size, 0, none⟩ = some (.slice none 0 0) := (blk_cell hw 0).trans rfl
          have x1 : wl.cell? ⟨W.heap.size, 1, none⟩ = some (.slice none 0 0) := (blk_cell hw 1).trans rfl
          have z0 := blk_frozen hw 0
          have z1 := blk_frozen hw 1
          have hp1 := blk_put hw 0 (.slice (some ⟨gR, 0, none⟩) 4 4) rfl
          have x2 : (wl.setCell ⟨W.heap.size, 0, none⟩ (.slice (some ⟨gR, 0, none⟩) 4 4)).cell? ⟨W.heap.size, 1, none⟩ = some (.slice none 0 0) := (blk_cell hp1 1).trans rfl
          have z2 := blk_frozen hp1 1
          have HP2 := Aside0.mk (blk_put hp1 1 (.slice none 0 0) rfl)
          clear hg hw hp1
          go_wp2
          refine bodyPost_ret (results_cell_row rfl _ _ W.heap.size 26 #[.slice (some ⟨gR, 0, none⟩) 4 4, .slice none 0 0] (0, 0) _ rfl HP2.out Tryd.underlying26 rfl (by kernel_rfl)) rfl ?_
          have hx := HX.out
          have WN : ∀ g : Nat, W.heap.size < g → g ≠ W.heap.size := fun g h => by omega
          have k1 := blk_far (p := ⟨W.heap.size, 1, none⟩) (blk_far (p := ⟨W.heap.size, 0, none⟩) (blk_below hx.1 ST.out) (WN _ GW11.out) (.slice (some ⟨gR, 0, none⟩) 4 4)) (WN _ GW11.out) (.slice none 0 0)
          have k2 := blk_far (p := ⟨W.heap.size, 1, none⟩) (blk_far (p := ⟨W.heap.size, 0, none⟩) (blk_below hx.2.1 ST.out) (WN _ GW4.out) (.slice (some ⟨gR, 0, none⟩) 4 4)) (WN _ GW4.out) (.slice none 0 0)
          have k3 := f_put (m := 4) (c := 4) GW.out ⟨gR, 0, none⟩ (Kd.F_below hx.2.2.1 ST.out)
          have c3 := blk_far (p := ⟨W.heap.size, 1, none⟩) (blk_far (p := ⟨W.heap.size, 0, none⟩) (blk_below hx.2.2.2.1 ST.out) (WN _ GW.out) (.slice (some ⟨gR, 0, none⟩) 4 4)) (WN _ GW.out) (.slice none 0 0)
          have BB := join_below HB3.out (join_below HBF.out ST.out)
          have k4 := f_put (m := 4) (c := 4) N1.out ⟨gR, 0, none⟩ (Kd.F_below (Kd.F_below H1.out.2.1 HB12.out) BB)
          have c4 := blk_far (p := ⟨W.heap.size, 1, none⟩) (blk_far (p := ⟨W.heap.size, 0, none⟩) (blk_below (blk_below H1.out.2.2.1 HB12.out) BB) (WN _ N1.out) (.slice (some ⟨gR, 0, none⟩) 4 4)) (WN _ N1.out) (.slice none 0 0)
          have k5 := f_put (m := 4) (c := 4) N2.out ⟨gR, 0, none⟩ (Kd.F_below H2.out.2.1 BB)
          have c5 := blk_far (p := ⟨W.heap.size, 1, none⟩) (blk_far (p := ⟨W.heap.size, 0, none⟩) (blk_below H2.out.2.2.1 BB) (WN _ N2.out) (.slice (some ⟨gR, 0, none⟩) 4 4)) (WN _ N2.out) (.slice none 0 0)
          exact ⟨_, rfl, made_row k1 (range_new k2) hx.2.2.2.2.2 k3 (fun _ => re_none hx.2.2.2.2.1) H1.out.1 k4 (fun _ => re_none H1.out.2.2.2) H2.out.1 k5 (fun _ => re_none H2.out.2.2.2) (Nat.le_of_lt GW11.out) ⟨Nat.le_of_lt GW.out, ne_type c3 k1 (by decide)⟩ ⟨Nat.le_of_lt N1.out, ne_type c4 k1 (by decide)⟩ ⟨Nat.le_of_lt N2.out, ne_type c5 k1 (by decide)⟩ ⟨Nat.le_of_lt GW4.out, ne_type k2 k1 (by decide)⟩, ((join_below HB2.out (join_below HB3.out (join_below HBF.out ST.out))).setCell (Nat.le_refl _) _).setCell (Nat.le_refl _) _⟩
      · go_simp
        obtain ⟨v3, hv⟩ : ∃ x, v2.alloc (Obj.cells #[.slice none 0 0, .slice none 0 0] 26) = x := ⟨_, rfl⟩
        rw [hv]
        obtain ⟨g13, hg⟩ : ∃ x, v2.heap.size = x := ⟨_, rfl⟩
        rw [hg]
        have F13 : Aside0 (v3.heap[g13]? = some (.cells #[.slice none 0 0, .slice none 0 0] 26 (0, 0))) := ⟨by rw [← hv, ← hg]; exact blk_new _ _⟩
        have GW13 : Aside0 (W.heap.size < g13) := ⟨by have h1 := HW3.out; have h2 := HV2.out.size; omega⟩
        have ST : Aside0 (Below v2.heap.size v2 v3) := ⟨hv ▸ below1 _ _⟩
        have HV3 : Aside0 (Below w3.heap.size w3 v3) := ⟨join_below HV2.out ST.out⟩
        have FN : Aside0 (a0 ≠ g13) := ⟨by have := G0.out; omega⟩
        have HGE : Aside0 (w3.heap.size ≤ g13) := ⟨hg ▸ HV2.out.size⟩
        clear hv hg
        have G0 := Aside0.mk (Nat.lt_of_lt_of_le G0.out ST.out.size)
        have F0 := Aside0.mk (And.intro (Kd.F_below F0.out.1 ST.out) (And.intro (blk_below F0.out.2.1 ST.out) F0.out.2.2))
        have F4 := Aside0.mk (blk_below F4.out ST.out)
        refine hK _ _ ⟨⟨_, HV3.out⟩, rfl⟩ ?_
        clear hK K ST
        refine hall1 (i := 11) (by kernel_rfl) (by rfl) (fun K hK => ?_)
        go_simp
        obtain ⟨v4, hv⟩ : ∃ x, v3.alloc (Obj.cells #[.string ⟨#[97]⟩, .int .i64 0, .int .i64 1, .int .i64 2, .slice (some ⟨a0, 0, none⟩) 1 c0, .slice E0 0 e0, .string ⟨#[98]⟩, .int .i64 0, .int .i64 2, .int .i64 2, .slice (some ⟨g4, 0, none⟩) 2 2, .slice none 0 0, .string ⟨#[111]⟩, .int .i64 1, .int .i64 3, .int .i64 2, .slice (some ⟨a1, 0, none⟩) 1 c1, .slice A2 0 c2, .string ⟨#[99]⟩, .int .i64 2, .int .i64 4, .int .i64 2, .slice (some ⟨b1, 0, none⟩) 1 d1, .slice B2 0 d2] 50) = x := ⟨_, rfl⟩
        rw [hv]
        obtain ⟨gR, hg⟩ : ∃ x, v3.heap.size = x := ⟨_, rfl⟩
        rw [hg]
        have F11 : Aside0 (v4.heap[gR]? = some (.cells #[.string ⟨#[97]⟩, .int .i64 0, .int .i64 1, .int .i64 2, .slice (some ⟨a0, 0, none⟩) 1 c0, .slice E0 0 e0, .string ⟨#[98]⟩, .int .i64 0, .int .i64 2, .int .i64 2, .slice (some ⟨g4, 0, none⟩) 2 2, .slice none 0 0, .string ⟨#[111]⟩, .int .i64 1, .int .i64 3, .int .i64 2, .slice (some ⟨a1, 0, none⟩) 1 c1, .slice A2 0 c2, .string ⟨#[99]⟩, .int .i64 2, .int .i64 4, .int .i64 2, .slice (some ⟨b1, 0, none⟩) 1 d1, .slice B2 0 d2] 50 (0, 0))) := ⟨by rw [← hv, ← hg]; exact blk_new _ _⟩
        have GW11 : Aside0 (W.heap.size < gR) := ⟨by have h1 := HW3.out; have h2 := HV3.out.size; omega⟩
        have ST : Aside0 (Below v3.heap.size v3 v4) := ⟨hv ▸ below1 _ _⟩
        have HV4 : Aside0 (Below w3.heap.size w3 v4) := ⟨join_below HV3.out ST.out⟩
        clear hv hg
        have G0 := Aside0.mk (Nat.lt_of_lt_of_le G0.out ST.out.size)
        have F0 := Aside0.mk (And.intro (Kd.F_below F0.out.1 ST.out) (And.intro (blk_below F0.out.2.1 ST.out) F0.out.2.2))
        have F4 := Aside0.mk (blk_below F4.out ST.out)
        have F13 := Aside0.mk (blk_below F13.out ST.out)
        refine hK _ _ ⟨⟨_, HV4.out⟩, rfl⟩ ?_
        clear hK K ST
        ((refine takeQ (i := 12) (by rfl) (by kernel_rfl) (by kernel_rfl) (by kernel_rfl) ?_ ?_ ?_); (focus exact fun _ _ _ _ h => h); (focus exact ⟨⟨_, HV4.out⟩, rfl⟩); intro K hK; go_simp; (with_reducible refine hK _ ?_); clear hK K)
        have ne4 : g4 ≠ g13 := fun e => by have h := F4.out; rw [e, F13.out] at h; simp at h
        have neR : gR ≠ g13 := fun e => by have h := F11.out; rw [e, F13.out] at h; simp at h
        have y0 : World.cell? v4 ⟨g13, 0, none⟩ = some (.slice none 0 0) := (blk_cell F13.out 0).trans rfl
        have y1 : World.cell? v4 ⟨g13, 1, none⟩ = some (.slice none 0 0) := (blk_cell F13.out 1).trans rfl
        have z0 := blk_frozen F13.out 0
        have z1 := blk_frozen F13.out 1
        have hp1 := blk_put F13.out 0 (.slice (some ⟨gR, 0, none⟩) 4 4) rfl
        have y2 : (World.setCell v4 ⟨g13, 0, none⟩ (.slice (some ⟨gR, 0, none⟩) 4 4)).cell? ⟨g13, 1, none⟩ = some (.slice none 0 0) := (blk_cell hp1 1).trans rfl
        have z2 := blk_frozen hp1 1
        have hp2 := blk_put hp1 1 (.slice none 0 0) rfl
        obtain ⟨uf, huf⟩ : ∃ x, (World.setCell v4 ⟨g13, 0, none⟩ (.slice (some ⟨gR, 0, none⟩) 4 4)).setCell ⟨g13, 1, none⟩ (.slice none 0 0) = x := ⟨_, rfl⟩
        have HBF : Aside0 (Below w3.heap.size w3 uf) := ⟨huf ▸ (HV4.out.setCell HGE.out _).setCell HGE.out _⟩
        have f11 := blk_far (p := ⟨g13, 1, none⟩) (blk_far (p := ⟨g13, 0, none⟩) F11.out neR (.slice (some ⟨gR, 0, none⟩) 4 4)) neR (.slice none 0 0)
        have f4 := blk_far (p := ⟨g13, 1, none⟩) (blk_far (p := ⟨g13, 0, none⟩) F4.out ne4 (.slice (some ⟨gR, 0, none⟩) 4 4)) ne4 (.slice none 0 0)
        have f0 := Kd.F_far (p := ⟨g13, 1, none⟩) (Kd.F_far (p := ⟨g13, 0, none⟩) F0.out.1 (fun k hk => by rw [hk]; exact FN.out) (.slice (some ⟨gR, 0, none⟩) 4 4)) (fun k hk => by rw [hk]; exact FN.out) (.slice none 0 0)
        have fx := blk_far (p := ⟨g13, 1, none⟩) (blk_far (p := ⟨g13, 0, none⟩) F0.out.2.1 FN.out (.slice (some ⟨gR, 0, none⟩) 4 4)) FN.out (.slice none 0 0)
        rw [huf] at hp2 f11 f4 f0 fx
        have HF := Aside0.mk hp2
        have HX := Aside0.mk (And.intro f11 (And.intro f4 (And.intro f0 (And.intro fx F0.out.2.2))))
        clear hp2 f11 f4 f0 fx ne4 neR hp1
        refine hall1 (i := 14) (by kernel_rfl) (by rfl) (fun K hK => ?_)
        go_simp
        clear huf y0 y1 y2 z0 z1 z2 F0 F4 F11 F13
        refine hK _ _ ⟨⟨_, HBF.out⟩, rfl⟩ ?_
        clear hK K
        refine wpAnyH_done (by kernel_rfl) ?_ _
        go_wp2
        obtain ⟨wl, hwl⟩ : ∃ x, (uf.alloc (Obj.cells #[.string ⟨#[111]⟩] 9)).alloc (Obj.cells #[.string ⟨#[99]⟩] 9) = x := ⟨_, rfl⟩
        rw [hwl]
        have ST : Aside0 (Below uf.heap.size uf wl) := ⟨hwl ▸ below_alloc (below1 _ _) _⟩
        clear hwl
        go_loopw [8] (fun i w' => i = .int .i64 0 ∧ w' = wl) (fun _ _ => 0)
        case atStart => exact ⟨rfl, rfl⟩
        case round =>
          obtain ⟨rfl, hwr⟩ := hrel
          rw [hwr]
          clear hwr
          have hg := blk_below HF.out ST.out
          have y0 : wl.cell? ⟨g13, 0, none⟩ = some (.slice (some ⟨gR, 0, none⟩) 4 4) := (blk_cell hg 0).trans rfl
          have y1 : wl.cell? ⟨g13, 1, none⟩ = some (.slice none 0 0) := (blk_cell hg 1).trans rfl
          have hw := blk_below (blk_below (blk_below (blk_below HBLK.out HB12.out) HB3.out) HBF.out) ST.out
          have x0 : wl.cell? ⟨W.heap.size, 0, none⟩ = some (.slice none 0 0) := (blk_cell hw 0).trans rfl
          have x1 : wl.cell? ⟨W.heap.size, 1, none⟩ = some (.slice none 0 0) := (blk_cell hw 1).trans rfl
          have z0 := blk_frozen hw 0
          have z1 := blk_frozen hw 1
          have hp1 := blk_put hw 0 (.slice (some ⟨gR, 0, none⟩) 4 4) rfl
          have x2 : (wl.setCell ⟨W.heap.size, 0, none⟩ (.slice (some ⟨gR, 0, none⟩) 4 4)).cell? ⟨W.heap.size, 1, none⟩ = some (.slice none 0 0) := (blk_cell hp1 1).trans rfl
          have z2 := blk_frozen hp1 1
          have HP2 := Aside0.mk (blk_put hp1 1 (.slice none 0 0) rfl)
          clear hg hw hp1
          go_wp2
          refine bodyPost_ret (results_cell_row rfl _ _ W.heap.size 26 #[.slice (some ⟨gR, 0, none⟩) 4 4, .slice none 0 0] (0, 0) _ rfl HP2.out Tryd.underlying26 rfl (by kernel_rfl)) rfl ?_
          have hx := HX.out
          have WN : ∀ g : Nat, W.heap.size < g → g ≠ W.heap.size := fun g h => by omega
          have k1 := blk_far (p := ⟨W.heap.size, 1, none⟩) (blk_far (p := ⟨W.heap.size, 0, none⟩) (blk_below hx.1 ST.out) (WN _ GW11.out) (.slice (some ⟨gR, 0, none⟩) 4 4)) (WN _ GW11.out) (.slice none 0 0)
          have k2 := blk_far (p := ⟨W.heap.size, 1, none⟩) (blk_far (p := ⟨W.heap.size, 0, none⟩) (blk_below hx.2.1 ST.out) (WN _ GW4.out) (.slice (some ⟨gR, 0, none⟩) 4 4)) (WN _ GW4.out) (.slice none 0 0)
          have k3 := f_put (m := 4) (c := 4) GW.out ⟨gR, 0, none⟩ (Kd.F_below hx.2.2.1 ST.out)
          have c3 := blk_far (p := ⟨W.heap.size, 1, none⟩) (blk_far (p := ⟨W.heap.size, 0, none⟩) (blk_below hx.2.2.2.1 ST.out) (WN _ GW.out) (.slice (some ⟨gR, 0, none⟩) 4 4)) (WN _ GW.out) (.slice none 0 0)
          have BB := join_below HB3.out (join_below HBF.out ST.out)
          have k4 := f_put (m := 4) (c := 4) N1.out ⟨gR, 0, none⟩ (Kd.F_below (Kd.F_below H1.out.2.1 HB12.out) BB)
          have c4 := blk_far (p := ⟨W.heap.size, 1, none⟩) (blk_far (p := ⟨W.heap.size, 0, none⟩) (blk_below (blk_below H1.out.2.2.1 HB12.out) BB) (WN _ N1.out) (.slice (some ⟨gR, 0, none⟩) 4 4)) (WN _ N1.out) (.slice none 0 0)
          have k5 := f_put (m := 4) (c := 4) N2.out ⟨gR, 0, none⟩ (Kd.F_below H2.out.2.1 BB)
          have c5 := blk_far (p := ⟨W.heap.size, 1, none⟩) (blk_far (p := ⟨W.heap.size, 0, none⟩) (blk_below H2.out.2.2.1 BB) (WN _ N2.out) (.slice (some ⟨gR, 0, none⟩) 4 4)) (WN _ N2.out) (.slice none 0 0)
          exact ⟨_, rfl, made_row k1 (range_new k2) hx.2.2.2.2.2 k3 (fun _ => re_none hx.2.2.2.2.1) H1.out.1 k4 (fun _ => re_none H1.out.2.2.2) H2.out.1 k5 (fun _ => re_none H2.out.2.2.2) (Nat.le_of_lt GW11.out) ⟨Nat.le_of_lt GW.out, ne_type c3 k1 (by decide)⟩ ⟨Nat.le_of_lt N1.out, ne_type c4 k1 (by decide)⟩ ⟨Nat.le_of_lt N2.out, ne_type c5 k1 (by decide)⟩ ⟨Nat.le_of_lt GW4.out, ne_type k2 k1 (by decide)⟩, ((join_below HB2.out (join_below HB3.out (join_below HBF.out ST.out))).setCell (Nat.le_refl _) _).setCell (Nat.le_refl _) _⟩
    · go_simp
      obtain ⟨v2, hv⟩ : ∃ x, v1.alloc (Obj.cells #[.slice none 0 0, .slice none 0 0] 26) = x := ⟨_, rfl⟩
      rw [hv]
      obtain ⟨g13, hg⟩ : ∃ x, v1.heap.size = x := ⟨_, rfl⟩
      rw [hg]
      have F13 : Aside0 (v2.heap[g13]? = some (.cells #[.slice none 0 0, .slice none 0 0] 26 (0, 0))) := ⟨by rw [← hv, ← hg]; exact blk_new _ _⟩
      have GW13 : Aside0 (W.heap.size < g13) := ⟨by have h1 := HW3.out; have h2 := HV1.out.size; omega⟩
      have ST : Aside0 (Below v1.heap.size v1 v2) := ⟨hv ▸ below1 _ _⟩
      have HV2 : Aside0 (Below w3.heap.size w3 v2) := ⟨join_below HV1.out ST.out⟩
      have FN : Aside0 (a0 ≠ g13) := ⟨by have := G0.out; omega⟩
      have HGE : Aside0 (w3.heap.size ≤ g13) := ⟨hg ▸ HV1.out.size⟩
      clear hv hg
      have G0 := Aside0.mk (Nat.lt_of_lt_of_le G0.out ST.out.size)
      have F0 := Aside0.mk (And.intro (Kd.F_below F0.out.1 ST.out) (And.intro (blk_below F0.out.2.1 ST.out) F0.out.2.2))
      refine hK _ _ ⟨⟨_, HV2.out⟩, rfl⟩ ?_
      clear hK K ST
      refine hall1 (i := 4) (by kernel_rfl) (by rfl) (fun K hK => ?_)
      go_simp
      obtain ⟨v3, hv⟩ : ∃ x, v2.alloc (Obj.cells #[.int .i32 10, .int .i32 10, .int .i32 98, .int .i32 98] 56) = x := ⟨_, rfl⟩
      rw [hv]
      obtain ⟨g4, hg⟩ : ∃ x, v2.heap.size = x := ⟨_, rfl⟩
      rw [hg]
      have F4 : Aside0 (v3.heap[g4]? = some (.cells #[.int .i32 10, .int .i32 10, .int .i32 98, .int .i32 98] 56 (0, 0))) := ⟨by rw [← hv, ← hg]; exact blk_new _ _⟩
      have GW4 : Aside0 (W.heap.size < g4) := ⟨by have h1 := HW3.out; have h2 := HV2.out.size; omega⟩
      have ST : Aside0 (Below v2.heap.size v2 v3) := ⟨hv ▸ below1 _ _⟩
      have HV3 : Aside0 (Below w3.heap.size w3 v3) := ⟨join_below HV2.out ST.out⟩
      clear hv hg
      have G0 := Aside0.mk (Nat.lt_of_lt_of_le G0.out ST.out.size)
      have F0 := Aside0.mk (And.intro (Kd.F_below F0.out.1 ST.out) (And.intro (blk_below F0.out.2.1 ST.out) F0.out.2.2))
      have F13 := Aside0.mk (blk_below F13.out ST.out)
      refine hK _ _ ⟨⟨_, HV3.out⟩, rfl⟩ ?_
      clear hK K ST
      ((refine takeQ (i := 5) (by rfl) (by kernel_rfl) (by kernel_rfl) (by kernel_rfl) ?_ ?_ ?_); (focus exact fun _ _ _ _ h => h); (focus exact ⟨⟨_, HV3.out⟩, rfl⟩); intro K hK; go_simp; (with_reducible refine hK _ ?_); clear hK K)
      ((refine takeQ (i := 6) (by rfl) (by kernel_rfl) (by kernel_rfl) (by kernel_rfl) ?_ ?_ ?_); (focus exact fun _ _ _ _ h => h); (focus exact ⟨⟨_, HV3.out⟩, rfl⟩); intro K hK; go_simp; (with_reducible refine hK _ ?_); clear hK K)
      refine hall1 (i := 11) (by kernel_rfl) (by rfl) (fun K hK => ?_)
      go_simp
      obtain ⟨v4, hv⟩ : ∃ x, v3.alloc (Obj.cells #[.string ⟨#[97]⟩, .int .i64 0, .int .i64 1, .int .i64 2, .slice (some ⟨a0, 0, none⟩) 1 c0, .slice E0 0 e0, .string ⟨#[98]⟩, .int .i64 0, .int .i64 2, .int .i64 2, .slice (some ⟨g4, 0, none⟩) 2 2, .slice none 0 0, .string ⟨#[111]⟩, .int .i64 1, .int .i64 3, .int .i64 2, .slice (some ⟨a1, 0, none⟩) 1 c1, .slice A2 0 c2, .string ⟨#[99]⟩, .int .i64 2, .int .i64 4, .int .i64 2, .slice (some ⟨b1, 0, none⟩) 1 d1, .slice B2 0 d2] 50) = x := ⟨_, rfl⟩
      rw [hv]
      obtain ⟨gR, hg⟩ : ∃ x, v3.heap.size = x := ⟨_, rfl⟩
      rw [hg]
      have F11 : Aside0 (v4.heap[gR]? = some (.cells #[.string ⟨#[97]⟩, .int .i64 0, .int .i64 1, .int .i64 2, .slice (some ⟨a0, 0, none⟩) 1 c0, .slice E0 0 e0, .string ⟨#[98]⟩, .int .i64 0, .int .i64 2, .int .i64 2, .slice (some ⟨g4, 0, none⟩) 2 2, .slice none 0 0, .string ⟨#[111]⟩, .int .i64 1, .int .i64 3, .int .i64 2, .slice (some ⟨a1, 0, none⟩) 1 c1, .slice A2 0 c2, .string ⟨#[99]⟩, .int .i64 2, .int .i64 4, .int .i64 2, .slice (some ⟨b1, 0, none⟩) 1 d1, .slice B2 0 d2] 50 (0, 0))) := ⟨by rw [← hv, ← hg]; exact blk_new _ _⟩
      have GW11 : Aside0 (W.heap.size < gR) := ⟨by have h1 := HW3.out; have h2 := HV3.out.size; omega⟩
      have ST : Aside0 (Below v3.heap.size v3 v4) := ⟨hv ▸ below1 _ _⟩
      have HV4 : Aside0 (Below w3.heap.size w3 v4) := ⟨join_below HV3.out ST.out⟩
      clear hv hg
      have G0 := Aside0.mk (Nat.lt_of_lt_of_le G0.out ST.out.size)
      have F0 := Aside0.mk (And.intro (Kd.F_below F0.out.1 ST.out) (And.intro (blk_below F0.out.2.1 ST.out) F0.out.2.2))
      have F13 := Aside0.mk (blk_below F13.out ST.out)
      have F4 := Aside0.mk (blk_below F4.out ST.out)
      refine hK _ _ ⟨⟨_, HV4.out⟩, rfl⟩ ?_
      clear hK K ST
      ((refine takeQ (i := 12) (by rfl) (by kernel_rfl) (by kernel_rfl) (by kernel_rfl) ?_ ?_ ?_); (focus exact fun _ _ _ _ h => h); (focus exact ⟨⟨_, HV4.out⟩, rfl⟩); intro K hK; go_simp; (with_reducible refine hK _ ?_); clear hK K)
      have ne4 : g4 ≠ g13 := fun e => by have h := F4.out; rw [e, F13.out] at h; simp at h
      have neR : gR ≠ g13 := fun e => by have h := F11.out; rw [e, F13.out] at h; simp at h
      have y0 : World.cell? v4 ⟨g13, 0, none⟩ = some (.slice none 0 0) := (blk_cell F13.out 0).trans rfl
      have y1 : World.cell? v4 ⟨g13, 1, none⟩ = some (.slice none 0 0) := (blk_cell F13.out 1).trans rfl
      have z0 := blk_frozen F13.out 0
      have z1 := blk_frozen F13.out 1
      have hp1 := blk_put F13.out 0 (.slice (some ⟨gR, 0, none⟩) 4 4) rfl
      have y2 : (World.setCell v4 ⟨g13, 0, none⟩ (.slice (some ⟨gR, 0, none⟩) 4 4)).cell? ⟨g13, 1, none⟩ = some (.slice none 0 0) := (blk_cell hp1 1).trans rfl
      have z2 := blk_frozen hp1 1
      have hp2 := blk_put hp1 1 (.slice none 0 0) rfl
      obtain ⟨uf, huf⟩ : ∃ x, (World.setCell v4 ⟨g13, 0, none⟩ (.slice (some ⟨gR, 0, none⟩) 4 4)).setCell ⟨g13, 1, none⟩ (.slice none 0 0) = x := ⟨_, rfl⟩
      have HBF : Aside0 (Below w3.heap.size w3 uf) := ⟨huf ▸ (HV4.out.setCell HGE.out _).setCell HGE.out _⟩
      have f11 := blk_far (p := ⟨g13, 1, none⟩) (blk_far (p := ⟨g13, 0, none⟩) F11.out neR (.slice (some ⟨gR, 0, none⟩) 4 4)) neR (.slice none 0 0)
      have f4 := blk_far (p := ⟨g13, 1, none⟩) (blk_far (p := ⟨g13, 0, none⟩) F4.out ne4 (.slice (some ⟨gR, 0, none⟩) 4 4)) ne4 (.slice none 0 0)
      have f0 := Kd.F_far (p := ⟨g13, 1, none⟩) (Kd.F_far (p := ⟨g13, 0, none⟩) F0.out.1 (fun k hk => by rw [hk]; exact FN.out) (.slice (some ⟨gR, 0, none⟩) 4 4)) (fun k hk => by rw [hk]; exact FN.out) (.slice none 0 0)
      have fx := blk_far (p := ⟨g13, 1, none⟩) (blk_far (p := ⟨g13, 0, none⟩) F0.out.2.1 FN.out (.slice (some ⟨gR, 0, none⟩) 4 4)) FN.out (.slice none 0 0)
      rw [huf] at hp2 f11 f4 f0 fx
      have HF := Aside0.mk hp2
      have HX := Aside0.mk (And.intro f11 (And.intro f4 (And.intro f0 (And.intro fx F0.out.2.2))))
      clear hp2 f11 f4 f0 fx ne4 neR hp1
      refine hall1 (i := 14) (by kernel_rfl) (by rfl) (fun K hK => ?_)
      go_simp
      clear huf y0 y1 y2 z0 z1 z2 F0 F4 F11 F13
      refine hK _ _ ⟨⟨_, HBF.out⟩, rfl⟩ ?_
      clear hK K
      refine wpAnyH_done (by kernel_rfl) ?_ _
      go_wp2
      obtain ⟨wl, hwl⟩ : ∃ x, (uf.alloc (Obj.cells #[.string ⟨#[111]⟩] 9)).alloc (Obj.cells #[.string ⟨#[99]⟩] 9) = x := ⟨_, rfl⟩
      rw [hwl]
      have ST : Aside0 (Below uf.heap.size uf wl) := ⟨hwl ▸ below_alloc (below1 _ _) _⟩
      clear hwl
      go_loopw [8] (fun i w' => i = .int .i64 0 ∧ w' = wl) (fun _ _ => 0)
      case atStart => exact ⟨rfl, rfl⟩
      case round =>
        obtain ⟨rfl, hwr⟩ := hrel
        rw [hwr]
        clear hwr
        have hg := blk_below HF.out ST.out
        have y0 : wl.cell? ⟨g13, 0, none⟩ = some (.slice (some ⟨gR, 0, none⟩) 4 4) := (blk_cell hg 0).trans rfl
        have y1 : wl.cell? ⟨g13, 1, none⟩ = some (.slice none 0 0) := (blk_cell hg 1).trans rfl
        have hw := blk_below (blk_below (blk_below (blk_below HBLK.out HB12.out) HB3.out) HBF.out) ST.out
        have x0 : wl.cell? ⟨W.heap.size, 0, none⟩ = some (.slice none 0 0) := (blk_cell hw 0).trans rfl
        have x1 : wl.cell? ⟨W.heap.size, 1, none⟩ = some (.slice none 0 0) := (blk_cell hw 1).trans rfl
        have z0 := blk_frozen hw 0
        have z1 := blk_frozen hw 1
        have hp1 := blk_put hw 0 (.slice (some ⟨gR, 0, none⟩) 4 4) rfl
        have x2 : (wl.setCell ⟨W.heap.size, 0, none⟩ (.slice (some ⟨gR, 0, none⟩) 4 4)).cell? ⟨W.heap.size, 1, none⟩ = some (.slice none 0 0) := (blk_cell hp1 1).trans rfl
        have z2 := blk_frozen hp1 1
        have HP2 := Aside0.mk (blk_put hp1 1 (.slice none 0 0) rfl)
        clear hg hw hp1
        go_wp2
        refine bodyPost_ret (results_cell_row rfl _ _ W.heap.size 26 #[.slice (some ⟨gR, 0, none⟩) 4 4, .slice none 0 0] (0, 0) _ rfl HP2.out Tryd.underlying26 rfl (by kernel_rfl)) rfl ?_
        have hx := HX.out
        have WN : ∀ g : Nat, W.heap.size < g → g ≠ W.heap.size := fun g h => by omega
        have k1 := blk_far (p := ⟨W.heap.size, 1, none⟩) (blk_far (p := ⟨W.heap.size, 0, none⟩) (blk_below hx.1 ST.out) (WN _ GW11.out) (.slice (some ⟨gR, 0, none⟩) 4 4)) (WN _ GW11.out) (.slice none 0 0)
        have k2 := blk_far (p := ⟨W.heap.size, 1, none⟩) (blk_far (p := ⟨W.heap.size, 0, none⟩) (blk_below hx.2.1 ST.out) (WN _ GW4.out) (.slice (some ⟨gR, 0, none⟩) 4 4)) (WN _ GW4.out) (.slice none 0 0)
        have k3 := f_put (m := 4) (c := 4) GW.out ⟨gR, 0, none⟩ (Kd.F_below hx.2.2.1 ST.out)
        have c3 := blk_far (p := ⟨W.heap.size, 1, none⟩) (blk_far (p := ⟨W.heap.size, 0, none⟩) (blk_below hx.2.2.2.1 ST.out) (WN _ GW.out) (.slice (some ⟨gR, 0, none⟩) 4 4)) (WN _ GW.out) (.slice none 0 0)
        have BB := join_below HB3.out (join_below HBF.out ST.out)
        have k4 := f_put (m := 4) (c := 4) N1.out ⟨gR, 0, none⟩ (Kd.F_below (Kd.F_below H1.out.2.1 HB12.out) BB)
        have c4 := blk_far (p := ⟨W.heap.size, 1, none⟩) (blk_far (p := ⟨W.heap.size, 0, none⟩) (blk_below (blk_below H1.out.2.2.1 HB12.out) BB) (WN _ N1.out) (.slice (some ⟨gR, 0, none⟩) 4 4)) (WN _ N1.out) (.slice none 0 0)
        have k5 := f_put (m := 4) (c := 4) N2.out ⟨gR, 0, none⟩ (Kd.F_below H2.out.2.1 BB)
        have c5 := blk_far (p := ⟨W.heap.size, 1, none⟩) (blk_far (p := ⟨W.heap.size, 0, none⟩) (blk_below H2.out.2.2.1 BB) (WN _ N2.out) (.slice (some ⟨gR, 0, none⟩) 4 4)) (WN _ N2.out) (.slice none 0 0)
        exact ⟨_, rfl, made_row k1 (range_new k2) hx.2.2.2.2.2 k3 (fun _ => re_none hx.2.2.2.2.1) H1.out.1 k4 (fun _ => re_none H1.out.2.2.2) H2.out.1 k5 (fun _ => re_none H2.out.2.2.2) (Nat.le_of_lt GW11.out) ⟨Nat.le_of_lt GW.out, ne_type c3 k1 (by decide)⟩ ⟨Nat.le_of_lt N1.out, ne_type c4 k1 (by decide)⟩ ⟨Nat.le_of_lt N2.out, ne_type c5 k1 (by decide)⟩ ⟨Nat.le_of_lt GW4.out, ne_type k2 k1 (by decide)⟩, ((join_below HB2.out (join_below HB3.out (join_below HBF.out ST.out))).setCell (Nat.le_refl _) _).setCell (Nat.le_refl _) _⟩
  · go_simp
    obtain ⟨v1, hv⟩ : ∃ x, wd.alloc (Obj.cells #[.int .i32 10, .int .i32 10, .int .i32 98, .int .i32 98] 56) = x := ⟨_, rfl⟩
    rw [hv]
    obtain ⟨g4, hg⟩ : ∃ x, wd.heap.size = x := ⟨_, rfl⟩
    rw [hg]
    have F4 : Aside0 (v1.heap[g4]? = some (.cells #[.int .i32 10, .int .i32 10, .int .i32 98, .int .i32 98] 56 (0, 0))) := ⟨by rw [← hv, ← hg]; exact blk_new _ _⟩
    have GW4 : Aside0 (W.heap.size < g4) := ⟨by have h1 := HW3.out; have h2 := HLAT.out.size; omega⟩
    have ST : Aside0 (Below wd.heap.size wd v1) := ⟨hv ▸ below1 _ _⟩
    have HV1 : Aside0 (Below w3.heap.size w3 v1) := ⟨join_below HLAT.out ST.out⟩
    clear hv hg
    refine hK _ _ ⟨⟨_, HV1.out⟩, rfl⟩ ?_
    clear hK K ST
    ((refine takeQ (i := 5) (by rfl) (by kernel_rfl) (by kernel_rfl) (by kernel_rfl) ?_ ?_ ?_); (focus exact fun _ _ _ _ h => h); (focus exact ⟨⟨_, HV1.out⟩, rfl⟩); intro K hK; go_simp; (with_reducible refine hK _ ?_); clear hK K)
    ((refine takeQ (i := 6) (by rfl) (by kernel_rfl) (by kernel_rfl) (by kernel_rfl) ?_ ?_ ?_); (focus exact fun _ _ _ _ h => h); (focus exact ⟨⟨_, HV1.out⟩, rfl⟩); intro K hK; go_simp; (with_reducible refine hK _ ?_); clear hK K)
    refine hall2 (i := 0) (j := 13) (by kernel_rfl) (by rfl) (by rfl) (fun K hK => ?_) (fun K hK => ?_)
    · go_simp
      refine (one_any 97 _).mono ?_
      rintro e v2 ⟨a0, c0, E0, e0, X0, rfl, f1, f2, fX, f3, f4, f5, hb⟩
      have G0 := Aside0.mk f5
      have GW : Aside0 (W.heap.size < a0) := ⟨by have h1 := HW3.out; have h2 := HV1.out.size; omega⟩
      have ST := Aside0.mk hb
      have HV2 : Aside0 (Below w3.heap.size w3 v2) := ⟨join_below HV1.out hb⟩
      have F0 := Aside0.mk (And.intro f2 (And.intro fX (And.intro f3 f1)))
      clear f1 f2 f3 f4 f5 fX hb
      have F4 := Aside0.mk (blk_below F4.out ST.out)
      refine hK _ _ ⟨⟨_, HV2.out⟩, rfl⟩ ?_
      clear hK K ST
      ((refine takeQ (i := 1) (by rfl) (by kernel_rfl) (by kernel_rfl) (by kernel_rfl) ?_ ?_ ?_); (focus exact fun _ _ _ _ h => h); (focus exact ⟨⟨_, HV2.out⟩, rfl⟩); intro K hK; go_simp; (with_reducible refine hK _ ?_); clear hK K)
      refine hall2 (i := 11) (j := 13) (by kernel_rfl) (by rfl) (by rfl) (fun K hK => ?_) (fun K hK => ?_)
      · go_simp
        obtain ⟨v3, hv⟩ : ∃ x, v2.alloc (Obj.cells #[.string ⟨#[97]⟩, .int .i64 0, .int .i64 1, .int .i64 2, .slice (some ⟨a0, 0, none⟩) 1 c0, .slice E0 0 e0, .string ⟨#[98]⟩, .int .i64 0, .int .i64 2, .int .i64 2, .slice (some ⟨g4, 0, none⟩) 2 2, .slice none 0 0, .string ⟨#[111]⟩, .int .i64 1, .int .i64 3, .int .i64 2, .slice (some ⟨a1, 0, none⟩) 1 c1, .slice A2 0 c2, .string ⟨#[99]⟩, .int .i64 2, .int .i64 4, .int .i64 2, .slice (some ⟨b1, 0, none⟩) 1 d1, .slice B2 0 d2] 50) = x := ⟨_, rfl⟩
        rw [hv]
        obtain ⟨gR, hg⟩ : ∃ x, v2.heap.size = x := ⟨_, rfl⟩
        rw [hg]
        have F11 : Aside0 (v3.heap[gR]? = some (.cells #[.string ⟨#[97]⟩, .int .i64 0, .int .i64 1, .int .i64 2, .slice (some ⟨a0, 0, none⟩) 1 c0, .slice E0 0 e0, .string ⟨#[98]⟩, .int .i64 0, .int .i64 2, .int .i64 2, .slice (some ⟨g4, 0, none⟩) 2 2, .slice none 0 0, .string ⟨#[111]⟩, .int .i64 1, .int .i64 3, .int .i64 2, .slice (some ⟨a1, 0, none⟩) 1 c1, .slice A2 0 c2, .string ⟨#[99]⟩, .int .i64 2, .int .i64 4, .int .i64 2, .slice (some ⟨b1, 0, none⟩) 1 d1, .slice B2 0 d2] 50 (0, 0))) := ⟨by rw [← hv, ← hg]; exact blk_new _ _⟩
        have GW11 : Aside0 (W.heap.size < gR) := ⟨by have h1 := HW3.out; have h2 := HV2.out.size; omega⟩
        have ST : Aside0 (Below v2.heap.size v2 v3) := ⟨hv ▸ below1 _ _⟩
        have HV3 : Aside0 (Below w3.heap.size w3 v3) := ⟨join_below HV2.out ST.out⟩
        clear hv hg
        have F4 := Aside0.mk (blk_below F4.out ST.out)
        have G0 := Aside0.mk (Nat.lt_of_lt_of_le G0.out ST.out.size)
        have F0 := Aside0.mk (And.intro (Kd.F_below F0.out.1 ST.out) (And.intro (blk_below F0.out.2.1 ST.out) F0.out.2.2))
        refine hK _ _ ⟨⟨_, HV3.out⟩, rfl⟩ ?_
        clear hK K ST
        ((refine takeQ (i := 12) (by rfl) (by kernel_rfl) (by kernel_rfl) (by kernel_rfl) ?_ ?_ ?_); (focus exact fun _ _ _ _ h => h); (focus exact ⟨⟨_, HV3.out⟩, rfl⟩); intro K hK; go_simp; (with_reducible refine hK _ ?_); clear hK K)
        refine hall1 (i := 13) (by kernel_rfl) (by rfl) (fun K hK => ?_)
        go_simp
        obtain ⟨v4, hv⟩ : ∃ x, v3.alloc (Obj.cells #[.slice none 0 0, .slice none 0 0] 26) = x := ⟨_, rfl⟩
        rw [hv]
        obtain ⟨g13, hg⟩ : ∃ x, v3.heap.size = x := ⟨_, rfl⟩
        rw [hg]
        have F13 : Aside0 (v4.heap[g13]? = some (.cells #[.slice none 0 0, .slice none 0 0] 26 (0, 0))) := ⟨by rw [← hv, ← hg]; exact blk_new _ _⟩
        have GW13 : Aside0 (W.heap.size < g13) := ⟨by have h1 := HW3.out; have h2 := HV3.out.size; omega⟩
        have ST : Aside0 (Below v3.heap.size v3 v4) := ⟨hv ▸ below1 _ _⟩
        have HV4 : Aside0 (Below w3.heap.size w3 v4) := ⟨join_below HV3.out ST.out⟩
        have FN : Aside0 (a0 ≠ g13) := ⟨by have := G0.out; omega⟩
        have HGE : Aside0 (w3.heap.size ≤ g13) := ⟨hg ▸ HV3.out.size⟩
        clear hv hg
        have F4 := Aside0.mk (blk_below F4.out ST.out)
        have G0 := Aside0.mk (Nat.lt_of_lt_of_le G0.out ST.out.size)
        have F0 := Aside0.mk (And.intro (Kd.F_below F0.out.1 ST.out) (And.intro (blk_below F0.out.2.1 ST.out) F0.out.2.2))
        have F11 := Aside0.mk (blk_below F11.out ST.out)
        refine hK _ _ ⟨⟨_, HV4.out⟩, rfl⟩ ?_
        clear hK K ST
        have ne4 : g4 ≠ g13 := fun e => by have h := F4.out; rw [e, F13.out] at h; simp at h
        have neR : gR ≠ g13 := fun e => by have h := F11.out; rw [e, F13.out] at h; simp at h
        have y0 : World.cell? v4 ⟨g13, 0, none⟩ = some (.slice none 0 0) := (blk_cell F13.out 0).trans rfl
        have y1 : World.cell? v4 ⟨g13, 1, none⟩ = some (.slice none 0 0) := (blk_cell F13.out 1).trans rfl
        have z0 := blk_frozen F13.out 0
        have z1 := blk_frozen F13.out 1
        have hp1 := blk_put F13.out 0 (.slice (some ⟨gR, 0, none⟩) 4 4) rfl
        have y2 : (World.setCell v4 ⟨g13, 0, none⟩ (.slice (some ⟨gR, 0, none⟩) 4 4)).cell? ⟨g13, 1, none⟩ = some (.slice none 0 0) := (blk_cell hp1 1).trans rfl
        have z2 := blk_frozen hp1 1
        have hp2 := blk_put hp1 1 (.slice none 0 0) rfl
        obtain ⟨uf, huf⟩ : ∃ x, (World.setCell v4 ⟨g13, 0, none⟩ (.slice (some ⟨gR, 0, none⟩) 4 4)).setCell ⟨g13, 1, none⟩ (.slice none 0 0) = x := ⟨_, rfl⟩
        have HBF : Aside0 (Below w3.heap.size w3 uf) := ⟨huf ▸ (HV4.out.setCell HGE.out _).setCell HGE.out _⟩
        have f11 := blk_far (p := ⟨g13, 1, none⟩) (blk_far (p := ⟨g13, 0, none⟩) F11.out neR (.slice (some ⟨gR, 0, none⟩) 4 4)) neR (.slice none 0 0)
        have f4 := blk_far (p := ⟨g13, 1, none⟩) (blk_far (p := ⟨g13, 0, none⟩) F4.out ne4 (.slice (some ⟨gR, 0, none⟩) 4 4)) ne4 (.slice none 0 0)
        have f0 := Kd.F_far (p := ⟨g13, 1, none⟩) (Kd.F_far (p := ⟨g13, 0, none⟩) F0.out.1 (fun k hk => by rw [hk]; exact FN.out) (.slice (some ⟨gR, 0, none⟩) 4 4)) (fun k hk => by rw [hk]; exact FN.out) (.slice none 0 0)
        have fx := blk_far (p := ⟨g13, 1, none⟩) (blk_far (p := ⟨g13, 0, none⟩) F0.out.2.1 FN.out (.slice (some ⟨gR, 0, none⟩) 4 4)) FN.out (.slice none 0 0)
        rw [huf] at hp2 f11 f4 f0 fx
        have HF := Aside0.mk hp2
        have HX := Aside0.mk (And.intro f11 (And.intro f4 (And.intro f0 (And.intro fx F0.out.2.2))))
        clear hp2 f11 f4 f0 fx ne4 neR hp1
        refine hall1 (i := 14) (by kernel_rfl) (by rfl) (fun K hK => ?_)
        go_simp
        clear huf y0 y1 y2 z0 z1 z2 F0 F4 F11 F13
        refine hK _ _ ⟨⟨_, HBF.out⟩, rfl⟩ ?_
        clear hK K
        refine wpAnyH_done (by kernel_rfl) ?_ _
        go_wp2
        obtain ⟨wl, hwl⟩ : ∃ x, (uf.alloc (Obj.cells #[.string ⟨#[111]⟩] 9)).alloc (Obj.cells #[.string ⟨#[99]⟩] 9) = x := ⟨_, rfl⟩
        rw [hwl]
        have ST : Aside0 (Below uf.heap.size uf wl) := ⟨hwl ▸ below_alloc (below1 _ _) _⟩
        clear hwl
        go_loopw [8] (fun i w' => i = .int .i64 0 ∧ w' = wl) (fun _ _ => 0)
        case atStart => exact ⟨rfl, rfl⟩
        case round =>
          obtain ⟨rfl, hwr⟩ := hrel
          rw [hwr]
          clear hwr
          have hg := blk_below HF.out ST.out
          have y0 : wl.cell? ⟨g13, 0, none⟩ = some (.slice (some ⟨gR, 0, none⟩) 4 4) := (blk_cell hg 0).trans rfl
          have y1 : wl.cell? ⟨g13, 1, none⟩ = some (.slice none 0 0) := (blk_cell hg 1).trans rfl
          have hw := blk_below (blk_below (blk_below (blk_below HBLK.out HB12.out) HB3.out) HBF.out) ST.out
          have x0 : wl.cell? ⟨W.heap.size, 0, none⟩ = some (.slice none 0 0) := (blk_cell hw 0).trans rfl
          have x1 : wl.cell? ⟨W.heap.size, 1, none⟩ = some (.slice none 0 0) := (blk_cell hw 1).trans rfl
          have z0 := blk_frozen hw 0
          have z1 := blk_frozen hw 1
          have hp1 := blk_put hw 0 (.slice (some ⟨gR, 0, none⟩) 4 4) rfl
          have x2 : (wl.setCell ⟨W.heap.size, 0, none⟩ (.slice (some ⟨gR, 0, none⟩) 4 4)).cell? ⟨W.heap.size, 1, none⟩ = some (.slice none 0 0) := (blk_cell hp1 1).trans rfl
          have z2 := blk_frozen hp1 1
          have HP2 := Aside0.mk (blk_put hp1 1 (.slice none 0 0) rfl)
          clear hg hw hp1
          go_wp2
          refine bodyPost_ret (results_cell_row rfl _ _ W.heap.size 26 #[.slice (some ⟨gR, 0, none⟩) 4 4, .slice none 0 0] (0, 0) _ rfl HP2.out Tryd.underlying26 rfl (by kernel_rfl)) rfl ?_
          have hx := HX.out
          have WN : ∀ g : Nat, W.heap.size < g → g ≠ W.heap.size := fun g h => by omega
          have k1 := blk_far (p := ⟨W.heap.size, 1, none⟩) (blk_far (p := ⟨W.heap.size, 0, none⟩) (blk_below hx.1 ST.out) (WN _ GW11.out) (.slice (some ⟨gR, 0, none⟩) 4 4)) (WN _ GW11.out) (.slice none 0 0)
          have k2 := blk_far (p := ⟨W.heap.size, 1, none⟩) (blk_far (p := ⟨W.heap.size, 0, none⟩) (blk_below hx.2.1 ST.out) (WN _ GW4.out) (.slice (some ⟨gR, 0, none⟩) 4 4)) (WN _ GW4.out) (.slice none 0 0)
          have k3 := f_put (m := 4) (c := 4) GW.out ⟨gR, 0, none⟩ (Kd.F_below hx.2.2.1 ST.out)
          have c3 := blk_far (p := ⟨W.heap.size, 1, none⟩) (blk_far (p := ⟨W.heap.size, 0, none⟩) (blk_below hx.2.2.2.1 ST.out) (WN _ GW.out) (.slice (some ⟨gR, 0, none⟩) 4 4)) (WN _ GW.out) (.slice none 0 0)
          have BB := join_below HB3.out (join_below HBF.out ST.out)
          have k4 := f_put (m := 4) (c := 4) N1.out ⟨gR, 0, none⟩ (Kd.F_below (Kd.F_below H1.out.2.1 HB12.out) BB)
          have c4 := blk_far (p := ⟨W.heap.size, 1, none⟩) (blk_far (p := ⟨W.heap.size, 0, none⟩) (blk_below (blk_below H1.out.2.2.1 HB12.out) BB) (WN _ N1.out) (.slice (some ⟨gR, 0, none⟩) 4 4)) (WN _ N1.out) (.slice none 0 0)
          have k5 := f_put (m := 4) (c := 4) N2.out ⟨gR, 0, none⟩ (Kd.F_below H2.out.2.1 BB)
          have c5 := blk_far (p := ⟨W.heap.size, 1, none⟩) (blk_far (p := ⟨W.heap.size, 0, none⟩) (blk_below H2.out.2.2.1 BB) (WN _ N2.out) (.slice (some ⟨gR, 0, none⟩) 4 4)) (WN _ N2.out) (.slice none 0 0)
          exact ⟨_, rfl, made_row k1 (range_new k2) hx.2.2.2.2.2 k3 (fun _ => re_none hx.2.2.2.2.1) H1.out.1 k4 (fun _ => re_none H1.out.2.2.2) H2.out.1 k5 (fun _ => re_none H2.out.2.2.2) (Nat.le_of_lt GW11.out) ⟨Nat.le_of_lt GW.out, ne_type c3 k1 (by decide)⟩ ⟨Nat.le_of_lt N1.out, ne_type c4 k1 (by decide)⟩ ⟨Nat.le_of_lt N2.out, ne_type c5 k1 (by decide)⟩ ⟨Nat.le_of_lt GW4.out, ne_type k2 k1 (by decide)⟩, ((join_below HB2.out (join_below HB3.out (join_below HBF.out ST.out))).setCell (Nat.le_refl _) _).setCell (Nat.le_refl _) _⟩
      · go_simp
        obtain ⟨v3, hv⟩ : ∃ x, v2.alloc (Obj.cells #[.slice none 0 0, .slice none 0 0] 26) = x := ⟨_, rfl⟩
        rw [hv]
        obtain ⟨g13, hg⟩ : ∃ x, v2.heap.size = x := ⟨_, rfl⟩
        rw [hg]
        have F13 : Aside0 (v3.heap[g13]? = some (.cells #[.slice none 0 0, .slice none 0 0] 26 (0, 0))) := ⟨by rw [← hv, ← hg]; exact blk_new _ _⟩
        have GW13 : Aside0 (W.heap.size < g13) := ⟨by have h1 := HW3.out; have h2 := HV2.out.size; omega⟩
        have ST : Aside0 (Below v2.heap.size v2 v3) := ⟨hv ▸ below1 _ _⟩
        have HV3 : Aside0 (Below w3.heap.size w3 v3) := ⟨join_below HV2.out ST.out⟩
        have FN : Aside0 (a0 ≠ g13) := ⟨by have := G0.out; omega⟩
        have HGE : Aside0 (w3.heap.size ≤ g13) := ⟨hg ▸ HV2.out.size⟩
        clear hv hg
        have F4 := Aside0.mk (blk_below F4.out ST.out)
        have G0 := Aside0.mk (Nat.lt_of_lt_of_le G0.out ST.out.size)
        have F0 := Aside0.mk (And.intro (Kd.F_below F0.out.1 ST.out) (And.intro (blk_below F0.out.2.1 ST.out) F0.out.2.2))
        refine hK _ _ ⟨⟨_, HV3.out⟩, rfl⟩ ?_
        clear hK K ST
        refine hall1 (i := 11) (by kernel_rfl) (by rfl) (fun K hK => ?_)
        go_simp
        obtain ⟨v4, hv⟩ : ∃ x, v3.alloc (Obj.cells #[.string ⟨#[97]⟩, .int .i64 0, .int .i64 1, .int .i64 2, .slice (some ⟨a0, 0, none⟩) 1 c0, .slice E0 0 e0, .string ⟨#[98]⟩, .int .i64 0, .int .i64 2, .int .i64 2, .slice (some ⟨g4, 0, none⟩) 2 2, .slice none 0 0, .string ⟨#[111]⟩, .int .i64 1, .int .i64 3, .int .i64 2, .slice (some ⟨a1, 0, none⟩) 1 c1, .slice A2 0 c2, .string ⟨#[99]⟩, .int .i64 2, .int .i64 4, .int .i64 2, .slice (some ⟨b1, 0, none⟩) 1 d1, .slice B2 0 d2] 50) = x := ⟨_, rfl⟩
        rw [hv]
        obtain ⟨gR, hg⟩ : ∃ x, v3.heap.size = x := ⟨_, rfl⟩
        rw [hg]
        have F11 : Aside0 (v4.heap[gR]? = some (.cells #[.string ⟨#[97]⟩, .int .i64 0, .int .i64 1, .int .i64 2, .slice (some ⟨a0, 0, none⟩) 1 c0, .slice E0 0 e0, .string ⟨#[98]⟩, .int .i64 0, .int .i64 2, .int .i64 2, .slice (some ⟨g4, 0, none⟩) 2 2, .slice none 0 0, .string ⟨#[111]⟩, .int .i64 1, .int .i64 3, .int .i64 2, .slice (some ⟨a1, 0, none⟩) 1 c1, .slice A2 0 c2, .string ⟨#[99]⟩, .int .i64 2, .int .i64 4, .int .i64 2, .slice (some ⟨b1, 0, none⟩) 1 d1, .slice B2 0 d2] 50 (0, 0))) := ⟨by rw [← hv, ← hg]; exact blk_new _ _⟩
        have GW11 : Aside0 (W.heap.size < gR) := ⟨by have h1 := HW3.out; have h2 := HV3.out.size; omega⟩
        have ST : Aside0 (Below v3.heap.size v3 v4) := ⟨hv ▸ below1 _ _⟩
        have HV4 : Aside0 (Below w3.heap.size w3 v4) := ⟨join_below HV3.out ST.out⟩
        clear hv hg
        have F4 := Aside0.mk (blk_below F4.out ST.out)
        have G0 := Aside0.mk (Nat.lt_of_lt_of_le G0.out ST.out.size)
        have F0 := Aside0.mk (And.intro (Kd.F_below F0.out.1 ST.out) (And.intro (blk_below F0.out.2.1 ST.out) F0.out.2.2))
        have F13 := Aside0.mk (blk_below F13.out ST.out)
        refine hK _ _ ⟨⟨_, HV4.out⟩, rfl⟩ ?_
        clear hK K ST
        ((refine takeQ (i := 12) (by rfl) (by kernel_rfl) (by kernel_rfl) (by kernel_rfl) ?_ ?_ ?_); (focus exact fun _ _ _ _ h => h); (focus exact ⟨⟨_, HV4.out⟩, rfl⟩); intro K hK; go_simp; (with_reducible refine hK _ ?_); clear hK K)
        have ne4 : g4 ≠ g13 := fun e => by have h := F4.out; rw [e, F13.out] at h; simp at h
        have neR : gR ≠ g13 := fun e => by have h := F11.out; rw [e, F13.out] at h; simp at h
        have y0 : World.cell? v4 ⟨g13, 0, none⟩ = some (.slice none 0 0) := (blk_cell F13.out 0).trans rfl
        have y1 : World.cell? v4 ⟨g13, 1, none⟩ = some (.slice none 0 0) := (blk_cell F13.out 1).trans rfl
        have z0 := blk_frozen F13.out 0
        have z1 := blk_frozen F13.out 1
        have hp1 := blk_put F13.out 0 (.slice (some ⟨gR, 0, none⟩) 4 4) rfl
        have y2 : (World.setCell v4 ⟨g13, 0, none⟩ (.slice (some ⟨gR, 0, none⟩) 4 4)).cell? ⟨g13, 1, none⟩ = some (.slice none 0 0) := (blk_cell hp1 1).trans rfl
        have z2 := blk_frozen hp1 1
        have hp2 := blk_put hp1 1 (.slice none 0 0) rfl
        obtain ⟨uf, huf⟩ : ∃ x, (World.setCell v4 ⟨g13, 0, none⟩ (.slice (some ⟨gR, 0, none⟩) 4 4)).setCell ⟨g13, 1, none⟩ (.slice none 0 0) = x := ⟨_, rfl⟩
        have HBF : Aside0 (Below w3.heap.size w3 uf) := ⟨huf ▸ (HV4.out.setCell HGE.out _).setCell HGE.out _⟩
        have f11 := blk_far (p := ⟨g13, 1, none⟩) (blk_far (p := ⟨g13, 0, none⟩) F11.out neR (.slice (some ⟨gR, 0, none⟩) 4 4)) neR (.slice none 0 0)
        have f4 := blk_far (p := ⟨g13, 1, none⟩) (blk_far (p := ⟨g13, 0, none⟩) F4.out ne4 (.slice (some ⟨gR, 0, none⟩) 4 4)) ne4 (.slice none 0 0)
        have f0 := Kd.F_far (p := ⟨g13, 1, none⟩) (Kd.F_far (p := ⟨g13, 0, none⟩) F0.out.1 (fun k hk => by rw [hk]; exact FN.out) (.slice (some ⟨gR, 0, none⟩) 4 4)) (fun k hk => by rw [hk]; exact FN.out) (.slice none 0 0)
        have fx := blk_far (p := ⟨g13, 1, none⟩) (blk_far (p := ⟨g13, 0, none⟩) F0.out.2.1 FN.out (.slice (some ⟨gR, 0, none⟩) 4 4)) FN.out (.slice none 0 0)
        rw [huf] at hp2 f11 f4 f0 fx
        have HF := Aside0.mk hp2
        have HX := Aside0.mk (And.intro f11 (And.intro f4 (And.intro f0 (And.intro fx F0.out.2.2))))
        clear hp2 f11 f4 f0 fx ne4 neR hp1
        refine hall1 (i := 14) (by kernel_rfl) (by rfl) (fun K hK => ?_)
        go_simp
        clear huf y0 y1 y2 z0 z1 z2 F0 F4 F11 F13
        refine hK _ _ ⟨⟨_, HBF.out⟩, rfl⟩ ?_
        clear hK K
        refine wpAnyH_done (by kernel_rfl) ?_ _
        go_wp2
        obtain ⟨wl, hwl⟩ : ∃ x, (uf.alloc (Obj.cells #[.string ⟨#[111]⟩] 9)).alloc (Obj.cells #[.string ⟨#[99]⟩] 9) = x := ⟨_, rfl⟩
        rw [hwl]
        have ST : Aside0 (Below uf.heap.size uf wl) := ⟨hwl ▸ below_alloc (below1 _ _) _⟩
        clear hwl
        go_loopw [8] (fun i w' => i = .int .i64 0 ∧ w' = wl) (fun _ _ => 0)
        case atStart => exact ⟨rfl, rfl⟩
        case round =>
          obtain ⟨rfl, hwr⟩ := hrel
          rw [hwr]
          clear hwr
          have hg := blk_below HF.out ST.out
          have y0 : wl.cell? ⟨g13, 0, none⟩ = some (.slice (some ⟨gR, 0, none⟩) 4 4) := (blk_cell hg 0).trans rfl
          have y1 : wl.cell? ⟨g13, 1, none⟩ = some (.slice none 0 0) := (blk_cell hg 1).trans rfl
          have hw := blk_below (blk_below (blk_below (blk_below HBLK.out HB12.out) HB3.out) HBF.out) ST.out
          have x0 : wl.cell? ⟨W.heap.size, 0, none⟩ = some (.slice none 0 0) := (blk_cell hw 0).trans rfl
          have x1 : wl.cell? ⟨W.heap.size, 1, none⟩ = some (.slice none 0 0) := (blk_cell hw 1).trans rfl
          have z0 := blk_frozen hw 0
          have z1 := blk_frozen hw 1
          have hp1 := blk_put hw 0 (.slice (some ⟨gR, 0, none⟩) 4 4) rfl
          have x2 : (wl.setCell ⟨W.heap.size, 0, none⟩ (.slice (some ⟨gR, 0, none⟩) 4 4)).cell? ⟨W.heap.size, 1, none⟩ = some (.slice none 0 0) := (blk_cell hp1 1).trans rfl
          have z2 := blk_frozen hp1 1
          have HP2 := Aside0.mk (blk_put hp1 1 (.slice none 0 0) rfl)
          clear hg hw hp1
          go_wp2
          refine bodyPost_ret (results_cell_row rfl _ _ W.heap.size 26 #[.slice (some ⟨gR, 0, none⟩) 4 4, .slice none 0 0] (0, 0) _ rfl HP2.out Tryd.underlying26 rfl (by kernel_rfl)) rfl ?_
          have hx := HX.out
          have WN : ∀ g : Nat, W.heap.size < g → g ≠ W.heap.size := fun g h => by omega
          have k1 := blk_far (p := ⟨W.heap.size, 1, none⟩) (blk_far (p := ⟨W.heap.size, 0, none⟩) (blk_below hx.1 ST.out) (WN _ GW11.out) (.slice (some ⟨gR, 0, none⟩) 4 4)) (WN _ GW11.out) (.slice none 0 0)
          have k2 := blk_far (p := ⟨W.heap.size, 1, none⟩) (blk_far (p := ⟨W.heap.size, 0, none⟩) (blk_below hx.2.1 ST.out) (WN _ GW4.out) (.slice (some ⟨gR, 0, none⟩) 4 4)) (WN _ GW4.out) (.slice none 0 0)
          have k3 := f_put (m := 4) (c := 4) GW.out ⟨gR, 0, none⟩ (Kd.F_below hx.2.2.1 ST.out)
          have c3 := blk_far (p := ⟨W.heap.size, 1, none⟩) (blk_far (p := ⟨W.heap.size, 0, none⟩) (blk_below hx.2.2.2.1 ST.out) (WN _ GW.out) (.slice (some ⟨gR, 0, none⟩) 4 4)) (WN _ GW.out) (.slice none 0 0)
          have BB := join_below HB3.out (join_below HBF.out ST.out)
          have k4 := f_put (m := 4) (c := 4) N1.out ⟨gR, 0, none⟩ (Kd.F_below (Kd.F_below H1.out.2.1 HB12.out) BB)
          have c4 := blk_far (p := ⟨W.heap.size, 1, none⟩) (blk_far (p := ⟨W.heap.size, 0, none⟩) (blk_below (blk_below H1.out.2.2.1 HB12.out) BB) (WN _ N1.out) (.slice (some ⟨gR, 0, none⟩) 4 4)) (WN _ N1.out) (.slice none 0 0)
          have k5 := f_put (m := 4) (c := 4) N2.out ⟨gR, 0, none⟩ (Kd.F_below H2.out.2.1 BB)
          have c5 := blk_far (p := ⟨W.heap.size, 1, none⟩) (blk_far (p := ⟨W.heap.size, 0, none⟩) (blk_below H2.out.2.2.1 BB) (WN _ N2.out) (.slice (some ⟨gR, 0, none⟩) 4 4)) (WN _ N2.out) (.slice none 0 0)
          exact ⟨_, rfl, made_row k1 (range_new k2) hx.2.2.2.2.2 k3 (fun _ => re_none hx.2.2.2.2.1) H1.out.1 k4 (fun _ => re_none H1.out.2.2.2) H2.out.1 k5 (fun _ => re_none H2.out.2.2.2) (Nat.le_of_lt GW11.out) ⟨Nat.le_of_lt GW.out, ne_type c3 k1 (by decide)⟩ ⟨Nat.le_of_lt N1.out, ne_type c4 k1 (by decide)⟩ ⟨Nat.le_of_lt N2.out, ne_type c5 k1 (by decide)⟩ ⟨Nat.le_of_lt GW4.out, ne_type k2 k1 (by decide)⟩, ((join_below HB2.out (join_below HB3.out (join_below HBF.out ST.out))).setCell (Nat.le_refl _) _).setCell (Nat.le_refl _) _⟩
    · go_simp
      obtain ⟨v2, hv⟩ : ∃ x, v1.alloc (Obj.cells #[.slice none 0 0, .slice none 0 0] 26) = x := ⟨_, rfl⟩
      rw [hv]
      obtain ⟨g13, hg⟩ : ∃ x, v1.heap.size = x := ⟨_, rfl⟩
      rw [hg]
      have F13 : Aside0 (v2.heap[g13]? = some (.cells #[.slice none 0 0, .slice none 0 0] 26 (0, 0))) := ⟨by rw [← hv, ← hg]; exact blk_new _ _⟩
      have GW13 : Aside0 (W.heap.size < g13) := ⟨by have h1 := HW3.out; have h2 := HV1.out.size; omega⟩
      have ST : Aside0 (Below v1.heap.size v1 v2) := ⟨hv ▸ below1 _ _⟩
      have HV2 : Aside0 (Below w3.heap.size w3 v2) := ⟨join_below HV1.out ST.out⟩
      have HGE : Aside0 (w3.heap.size ≤ g13) := ⟨hg ▸ HV1.out.size⟩
      clear hv hg
      have F4 := Aside0.mk (blk_below F4.out ST.out)
      refine hK _ _ ⟨⟨_, HV2.out⟩, rfl⟩ ?_
      clear hK K ST
      refine hall1 (i := 0) (by kernel_rfl) (by rfl) (fun K hK => ?_)
      go_simp
      refine (one_any 97 _).mono ?_
      rintro e v3 ⟨a0, c0, E0, e0, X0, rfl, f1, f2, fX, f3, f4, f5, hb⟩
      have FN : Aside0 (a0 ≠ g13) := ⟨by have := blk_lt F13.out; omega⟩
      have G0 := Aside0.mk f5
      have GW : Aside0 (W.heap.size < a0) := ⟨by have h1 := HW3.out; have h2 := HV2.out.size; omega⟩
      have ST := Aside0.mk hb
      have HV3 : Aside0 (Below w3.heap.size w3 v3) := ⟨join_below HV2.out hb⟩
      have F0 := Aside0.mk (And.intro f2 (And.intro fX (And.intro f3 f1)))
      clear f1 f2 f3 f4 f5 fX hb
      have F4 := Aside0.mk (blk_below F4.out ST.out)
      have F13 := Aside0.mk (blk_below F13.out ST.out)
      refine hK _ _ ⟨⟨_, HV3.out⟩, rfl⟩ ?_
      clear hK K ST
      ((refine takeQ (i := 1) (by rfl) (by kernel_rfl) (by kernel_rfl) (by kernel_rfl) ?_ ?_ ?_); (focus exact fun _ _ _ _ h => h); (focus exact ⟨⟨_, HV3.out⟩, rfl⟩); intro K hK; go_simp; (with_reducible refine hK _ ?_); clear hK K)
      refine hall1 (i := 11) (by kernel_rfl) (by rfl) (fun K hK => ?_)
      go_simp
      obtain ⟨v4, hv⟩ : ∃ x, v3.alloc (Obj.cells #[.string ⟨#[97]⟩, .int .i64 0, .int .i64 1, .int .i64 2, .slice (some ⟨a0, 0, none⟩) 1 c0, .slice E0 0 e0, .string ⟨#[98]⟩, .int .i64 0, .int .i64 2, .int .i64 2, .slice (some ⟨g4, 0, none⟩) 2 2, .slice none 0 0, .string ⟨#[111]⟩, .int .i64 1, .int .i64 3, .int .i64 2, .slice (some ⟨a1, 0, none⟩) 1 c1, .slice A2 0 c2, .string ⟨#[99]⟩, .int .i64 2, .int .i64 4, .int .i64 2, .slice (some ⟨b1, 0, none⟩) 1 d1, .slice B2 0 d2] 50) = x := ⟨_, rfl⟩
      rw [hv]
      obtain ⟨gR, hg⟩ : ∃ x, v3.heap.size = x := ⟨_, rfl⟩
      rw [hg]
      have F11 : Aside0 (v4.heap[gR]? = some (.cells #[.string ⟨#[97]⟩, .int .i64 0, .int .i64 1, .int .i64 2, .slice (some ⟨a0, 0, none⟩) 1 c0, .slice E0 0 e0, .string ⟨#[98]⟩, .int .i64 0, .int .i64 2, .int .i64 2, .slice (some ⟨g4, 0, none⟩) 2 2, .slice none 0 0, .string ⟨#[111]⟩, .int .i64 1, .int .i64 3, .int .i64 2, .slice (some ⟨a1, 0, none⟩) 1 c1, .slice A2 0 c2, .string ⟨#[99]⟩, .int .i64 2, .int .i64 4, .int .i64 2, .slice (some ⟨b1, 0, none⟩) 1 d1, .slice B2 0 d2] 50 (0, 0))) := ⟨by rw [← hv, ← hg]; exact blk_new _ _⟩
      have GW11 : Aside0 (W.heap.size < gR) := ⟨by have h1 := HW3.out; have h2 := HV3.out.size; omega⟩
      have ST : Aside0 (Below v3.heap.size v3 v4) := ⟨hv ▸ below1 _ _⟩
      have HV4 : Aside0 (Below w3.heap.size w3 v4) := ⟨join_below HV3.out ST.out⟩
      clear hv hg
      have F4 := Aside0.mk (blk_below F4.out ST.out)
      have F13 := Aside0.mk (blk_below F13.out ST.out)
      have G0 := Aside0.mk (Nat.lt_of_lt_of_le G0.out ST.out.size)
      have F0 := Aside0.mk (And.intro (Kd.F_below F0.out.1 ST.out) (And.intro (blk_below F0.out.2.1 ST.out) F0.out.2.2))
      refine hK _ _ ⟨⟨_, HV4.out⟩, rfl⟩ ?_
      clear hK K ST
      ((refine takeQ (i := 12) (by rfl) (by kernel_rfl) (by kernel_rfl) (by kernel_rfl) ?_ ?_ ?_); (focus exact fun _ _ _ _ h => h); (focus exact ⟨⟨_, HV4.out⟩, rfl⟩); intro K hK; go_simp; (with_reducible refine hK _ ?_); clear hK K)
      have ne4 : g4 ≠ g13 := fun e => by have h := F4.out; rw [e, F13.out] at h; simp at h
      have neR : gR ≠ g13 := fun e => by have h := F11.out; rw [e, F13.out] at h; simp at h
      have y0 : World.cell? v4 ⟨g13, 0, none⟩ = some (.slice none 0 0) := (blk_cell F13.out 0).trans rfl
      have y1 : World.cell? v4 ⟨g13, 1, none⟩ = some (.slice none 0 0) := (blk_cell F13.out 1).trans rfl
      have z0 := blk_frozen F13.out 0
      have z1 := blk_frozen F13.out 1
      have hp1 := blk_put F13.out 0 (.slice (some ⟨gR, 0, none⟩) 4 4) rfl
      have y2 : (World.setCell v4 ⟨g13, 0, none⟩ (.slice (some ⟨gR, 0, none⟩) 4 4)).cell? ⟨g13, 1, none⟩ = some (.slice none 0 0) := (blk_cell hp1 1).trans rfl
      have z2 := blk_frozen hp1 1
      have hp2 := blk_put hp1 1 (.slice none 0 0) rfl
      obtain ⟨uf, huf⟩ : ∃ x, (World.setCell v4 ⟨g13, 0, none⟩ (.slice (some ⟨gR, 0, none⟩) 4 4)).setCell ⟨g13, 1, none⟩ (.slice none 0 0) = x := ⟨_, rfl⟩
      have HBF : Aside0 (Below w3.heap.size w3 uf) := ⟨huf ▸ (HV4.out.setCell HGE.out _).setCell HGE.out _⟩
      have f11 := blk_far (p := ⟨g13, 1, none⟩) (blk_far (p := ⟨g13, 0, none⟩) F11.out neR (.slice (some ⟨gR, 0, none⟩) 4 4)) neR (.slice none 0 0)
      have f4 := blk_far (p := ⟨g13, 1, none⟩) (blk_far (p := ⟨g13, 0, none⟩) F4.out ne4 (.slice (some ⟨gR, 0, none⟩) 4 4)) ne4 (.slice none 0 0)
      have f0 := Kd.F_far (p := ⟨g13, 1, none⟩) (Kd.F_far (p := ⟨g13, 0, none⟩) F0.out.1 (fun k hk => by rw [hk]; exact FN.out) (.slice (some ⟨gR, 0, none⟩) 4 4)) (fun k hk => by rw [hk]; exact FN.out) (.slice none 0 0)
      have fx := blk_far (p := ⟨g13, 1, none⟩) (blk_far (p := ⟨g13, 0, none⟩) F0.out.2.1 FN.out (.slice (some ⟨gR, 0, none⟩) 4 4)) FN.out (.slice none 0 0)
      rw [huf] at hp2 f11 f4 f0 fx
      have HF := Aside0.mk hp2
      have HX := Aside0.mk (And.intro f11 (And.intro f4 (And.intro f0 (And.intro fx F0.out.2.2))))
      clear hp2 f11 f4 f0 fx ne4 neR hp1
      refine hall1 (i := 14) (by kernel_rfl) (by rfl) (fun K hK => ?_)
      go_simp
      clear huf y0 y1 y2 z0 z1 z2 F0 F4 F11 F13
      refine hK _ _ ⟨⟨_, HBF.out⟩, rfl⟩ ?_
      clear hK K
      refine wpAnyH_done (by kernel_rfl) ?_ _
      go_wp2
      obtain ⟨wl, hwl⟩ : ∃ x, (uf.alloc (Obj.cells #[.string ⟨#[111]⟩] 9)).alloc (Obj.cells #[.string ⟨#[99]⟩] 9) = x := ⟨_, rfl⟩
      rw [hwl]
      have ST : Aside0 (Below uf.heap.size uf wl) := ⟨hwl ▸ below_alloc (below1 _ _) _⟩
      clear hwl
      go_loopw [8] (fun i w' => i = .int .i64 0 ∧ w' = wl) (fun _ _ => 0)
      case atStart => exact ⟨rfl, rfl⟩
      case round =>
        obtain ⟨rfl, hwr⟩ := hrel
        rw [hwr]
        clear hwr
        have hg := blk_below HF.out ST.out
        have y0 : wl.cell? ⟨g13, 0, none⟩ = some (.slice (some ⟨gR, 0, none⟩) 4 4) := (blk_cell hg 0).trans rfl
        have y1 : wl.cell? ⟨g13, 1, none⟩ = some (.slice none 0 0) := (blk_cell hg 1).trans rfl
        have hw := blk_below (blk_below (blk_below (blk_below HBLK.out HB12.out) HB3.out) HBF.out) ST.out
        have x0 : wl.cell? ⟨W.heap.size, 0, none⟩ = some (.slice none 0 0) := (blk_cell hw 0).trans rfl
        have x1 : wl.cell? ⟨W.heap.size, 1, none⟩ = some (.slice none 0 0) := (blk_cell hw 1).trans rfl
        have z0 := blk_frozen hw 0
        have z1 := blk_frozen hw 1
        have hp1 := blk_put hw 0 (.slice (some ⟨gR, 0, none⟩) 4 4) rfl
        have x2 : (wl.setCell ⟨W.heap.size, 0, none⟩ (.slice (some ⟨gR, 0, none⟩) 4 4)).cell? ⟨W.heap.size, 1, none⟩ = some (.slice none 0 0) := (blk_cell hp1 1).trans rfl
        have z2 := blk_frozen hp1 1
        have HP2 := Aside0.mk (blk_put hp1 1 (.slice none 0 0) rfl)
        clear hg hw hp1
        go_wp2
        refine bodyPost_ret (results_cell_row rfl _ _ W.heap.size 26 #[.slice (some ⟨gR, 0, none⟩) 4 4, .slice none 0 0] (0, 0) _ rfl HP2.out Tryd.underlying26 rfl (by kernel_rfl)) rfl ?_
        have hx := HX.out
        have WN : ∀ g : Nat, W.heap.size < g → g ≠ W.heap.size := fun g h => by omega
        have k1 := blk_far (p := ⟨W.heap.size, 1, none⟩) (blk_far (p := ⟨W.heap.size, 0, none⟩) (blk_below hx.1 ST.out) (WN _ GW11.out) (.slice (some ⟨gR, 0, none⟩) 4 4)) (WN _ GW11.out) (.slice none 0 0)
        have k2 := blk_far (p := ⟨W.heap.size, 1, none⟩) (blk_far (p := ⟨W.heap.size, 0, none⟩) (blk_below hx.2.1 ST.out) (WN _ GW4.out) (.slice (some ⟨gR, 0, none⟩) 4 4)) (WN _ GW4.out) (.slice none 0 0)
        have k3 := f_put (m := 4) (c := 4) GW.out ⟨gR, 0, none⟩ (Kd.F_below hx.2.2.1 ST.out)
        have c3 := blk_far (p := ⟨W.heap.size, 1, none⟩) (blk_far (p := ⟨W.heap.size, 0, none⟩) (blk_below hx.2.2.2.1 ST.out) (WN _ GW.out) (.slice (some ⟨gR, 0, none⟩) 4 4)) (WN _ GW.out) (.slice none 0 0)
        have BB := join_below HB3.out (join_below HBF.out ST.out)
        have k4 := f_put (m := 4) (c := 4) N1.out ⟨gR, 0, none⟩ (Kd.F_below (Kd.F_below H1.out.2.1 HB12.out) BB)
        have c4 := blk_far (p := ⟨W.heap.size, 1, none⟩) (blk_far (p := ⟨W.heap.size, 0, none⟩) (blk_below (blk_below H1.out.2.2.1 HB12.out) BB) (WN _ N1.out) (.slice (some ⟨gR, 0, none⟩) 4 4)) (WN _ N1.out) (.slice none 0 0)
        have k5 := f_put (m := 4) (c := 4) N2.out ⟨gR, 0, none⟩ (Kd.F_below H2.out.2.1 BB)
        have c5 := blk_far (p := ⟨W.heap.size, 1, none⟩) (blk_far (p := ⟨W.heap.size, 0, none⟩) (blk_below H2.out.2.2.1 BB) (WN _ N2.out) (.slice (some ⟨gR, 0, none⟩) 4 4)) (WN _ N2.out) (.slice none 0 0)
        exact ⟨_, rfl, made_row k1 (range_new k2) hx.2.2.2.2.2 k3 (fun _ => re_none hx.2.2.2.2.1) H1.out.1 k4 (fun _ => re_none H1.out.2.2.2) H2.out.1 k5 (fun _ => re_none H2.out.2.2.2) (Nat.le_of_lt GW11.out) ⟨Nat.le_of_lt GW.out, ne_type c3 k1 (by decide)⟩ ⟨Nat.le_of_lt N1.out, ne_type c4 k1 (by decide)⟩ ⟨Nat.le_of_lt N2.out, ne_type c5 k1 (by decide)⟩ ⟨Nat.le_of_lt GW4.out, ne_type k2 k1 (by decide)⟩, ((join_below HB2.out (join_below HB3.out (join_below HBF.out ST.out))).setCell (Nat.le_refl _) _).setCell (Nat.le_refl _) _⟩
  · go_simp
    obtain ⟨v1, hv⟩ : ∃ x, wd.alloc (Obj.cells #[.slice none 0 0, .slice none 0 0] 26) = x := ⟨_, rfl⟩
    rw [hv]
    obtain ⟨g13, hg⟩ : ∃ x, wd.heap.size = x := ⟨_, rfl⟩
    rw [hg]
    have F13 : Aside0 (v1.heap[g13]? = some (.cells #[.slice none 0 0, .slice none 0 0] 26 (0, 0))) := ⟨by rw [← hv, ← hg]; exact blk_new _ _⟩
    have GW13 : Aside0 (W.heap.size < g13) := ⟨by have h1 := HW3.out; have h2 := HLAT.out.size; omega⟩
    have ST : Aside0 (Below wd.heap.size wd v1) := ⟨hv ▸ below1 _ _⟩
    have HV1 : Aside0 (Below w3.heap.size w3 v1) := ⟨join_below HLAT.out ST.out⟩
    have HGE : Aside0 (w3.heap.size ≤ g13) := ⟨hg ▸ HLAT.out.size⟩
    clear hv hg
    refine hK _ _ ⟨⟨_, HV1.out⟩, rfl⟩ ?_
    clear hK K ST
    refine hall2 (i := 0) (j := 4) (by kernel_rfl) (by rfl) (by rfl) (fun K hK => ?_) (fun K hK => ?_)
    · go_simp
      refine (one_any 97 _).mono ?_
      rintro e v2 ⟨a0, c0, E0, e0, X0, rfl, f1, f2, fX, f3, f4, f5, hb⟩
      have FN : Aside0 (a0 ≠ g13) := ⟨by have := blk_lt F13.out; omega⟩
      have G0 := Aside0.mk f5
      have GW : Aside0 (W.heap.size < a0) := ⟨by have h1 := HW3.out; have h2 := HV1.out.size; omega⟩
      have ST := Aside0.mk hb
      have HV2 : Aside0 (Below w3.heap.size w3 v2) := ⟨join_below HV1.out hb⟩
      have F0 := Aside0.mk (And.intro f2 (And.intro fX (And.intro f3 f1)))
      clear f1 f2 f3 f4 f5 fX hb
      have F13 := Aside0.mk (blk_below F13.out ST.out)
      refine hK _ _ ⟨⟨_, HV2.out⟩, rfl⟩ ?_
      clear hK K ST
      ((refine takeQ (i := 1) (by rfl) (by kernel_rfl) (by kernel_rfl) (by kernel_rfl) ?_ ?_ ?_); (focus exact fun _ _ _ _ h => h); (focus exact ⟨⟨_, HV2.out⟩, rfl⟩); intro K hK; go_simp; (with_reducible refine hK _ ?_); clear hK K)
      refine hall1 (i := 4) (by kernel_rfl) (by rfl) (fun K hK => ?_)
      go_simp
      obtain ⟨v3, hv⟩ : ∃ x, v2.alloc (Obj.cells #[.int .i32 10, .int .i32 10, .int .i32 98, .int .i32 98] 56) = x := ⟨_, rfl⟩
      rw [hv]
      obtain ⟨g4, hg⟩ : ∃ x, v2.heap.size = x := ⟨_, rfl⟩
      rw [hg]
      have F4 : Aside0 (v3.heap[g4]? = some (.cells #[.int .i32 10, .int .i32 10, .int .i32 98, .int .i32 98] 56 (0, 0))) := ⟨by rw [← hv, ← hg]; exact blk_new _ _⟩
      have GW4 : Aside0 (W.heap.size < g4) := ⟨by have h1 := HW3.out; have h2 := HV2.out.size; omega⟩
      have ST : Aside0 (Below v2.heap.size v2 v3) := ⟨hv ▸ below1 _ _⟩
      have HV3 : Aside0 (Below w3.heap.size w3 v3) := ⟨join_below HV2.out ST.out⟩
      clear hv hg
      have F13 := Aside0.mk (blk_below F13.out ST.out)
      have G0 := Aside0.mk (Nat.lt_of_lt_of_le G0.out ST.out.size)
      have F0 := Aside0.mk (And.intro (Kd.F_below F0.out.1 ST.out) (And.intro (blk_below F0.out.2.1 ST.out) F0.out.2.2))
      refine hK _ _ ⟨⟨_, HV3.out⟩, rfl⟩ ?_
      clear hK K ST
      ((refine takeQ (i := 5) (by rfl) (by kernel_rfl) (by kernel_rfl) (by kernel_rfl) ?_ ?_ ?_); (focus exact fun _ _ _ _ h => h); (focus exact ⟨⟨_, HV3.out⟩, rfl⟩); intro K hK; go_simp; (with_reducible refine hK _ ?_); clear hK K)
      ((refine takeQ (i := 6) (by rfl) (by kernel_rfl) (by kernel_rfl) (by kernel_rfl) ?_ ?_ ?_); (focus exact fun _ _ _ _ h => h); (focus exact ⟨⟨_, HV3.out⟩, rfl⟩); intro K hK; go_simp; (with_reducible refine hK _ ?_); clear hK K)
      refine hall1 (i := 11) (by kernel_rfl) (by rfl) (fun K hK => ?_)
      go_simp
      obtain ⟨v4, hv⟩ : ∃ x, v3.alloc (Obj.cells #[.string ⟨#[97]⟩, .int .i64 0, .int .i64 1, .int .i64 2, .slice (some ⟨a0, 0, none⟩) 1 c0, .slice E0 0 e0, .string ⟨#[98]⟩, .int .i64 0, .int .i64 2, .int .i64 2, .slice (some ⟨g4, 0, none⟩) 2 2, .slice none 0 0, .string ⟨#[111]⟩, .int .i64 1, .int .i64 3, .int .i64 2, .slice (some ⟨a1, 0, none⟩) 1 c1, .slice A2 0 c2, .string ⟨#[99]⟩, .int .i64 2, .int .i64 4, .int .i64 2, .slice (some ⟨b1, 0, none⟩) 1 d1, .slice B2 0 d2] 50) = x := ⟨_, rfl⟩
      rw [hv]
      obtain ⟨gR, hg⟩ : ∃ x, v3.heap.size = x := ⟨_, rfl⟩
      rw [hg]
      have F11 : Aside0 (v4.heap[gR]? = some (.cells #[.string ⟨#[97]⟩, .int .i64 0, .int .i64 1, .int .i64 2, .slice (some ⟨a0, 0, none⟩) 1 c0, .slice E0 0 e0, .string ⟨#[98]⟩, .int .i64 0, .int .i64 2, .int .i64 2, .slice (some ⟨g4, 0, none⟩) 2 2, .slice none 0 0, .string ⟨#[111]⟩, .int .i64 1, .int .i64 3, .int .i64 2, .slice (some ⟨a1, 0, none⟩) 1 c1, .slice A2 0 c2, .string ⟨#[99]⟩, .int .i64 2, .int .i64 4, .int .i64 2, .slice (some ⟨b1, 0, none⟩) 1 d1, .slice B2 0 d2] 50 (0, 0))) := ⟨by rw [← hv, ← hg]; exact blk_new _ _⟩
      have GW11 : Aside0 (W.heap.size < gR) := ⟨by have h1 := HW3.out; have h2 := HV3.out.size; omega⟩
      have ST : Aside0 (Below v3.heap.size v3 v4) := ⟨hv ▸ below1 _ _⟩
      have HV4 : Aside0 (Below w3.heap.size w3 v4) := ⟨join_below HV3.out ST.out⟩
      clear hv hg
      have F13 := Aside0.mk (blk_below F13.out ST.out)
      have G0 := Aside0.mk (Nat.lt_of_lt_of_le G0.out ST.out.size)
      have F0 := Aside0.mk (And.intro (Kd.F_below F0.out.1 ST.out) (And.intro (blk_below F0.out.2.1 ST.out) F0.out.2.2))
      have F4 := Aside0.mk (blk_below F4.out ST.out)
      refine hK _ _ ⟨⟨_, HV4.out⟩, rfl⟩ ?_
      clear hK K ST
      ((refine takeQ (i := 12) (by rfl) (by kernel_rfl) (by kernel_rfl) (by kernel_rfl) ?_ ?_ ?_); (focus exact fun _ _ _ _ h => h); (focus exact ⟨⟨_, HV4.out⟩, rfl⟩); intro K hK; go_simp; (with_reducible refine hK _ ?_); clear hK K)
      have ne4 : g4 ≠ g13 := fun e => by have h := F4.out; rw [e, F13.out] at h; simp at h
      have neR : gR ≠ g13 := fun e => by have h := F11.out; rw [e, F13.out] at h; simp at h
      have y0 : World.cell? v4 ⟨g13, 0, none⟩ = some (.slice none 0 0) := (blk_cell F13.out 0).trans rfl
      have y1 : World.cell? v4 ⟨g13, 1, none⟩ = some (.slice none 0 0) := (blk_cell F13.out 1).trans rfl
      have z0 := blk_frozen F13.out 0
      have z1 := blk_frozen F13.out 1
      have hp1 := blk_put F13.out 0 (.slice (some ⟨gR, 0, none⟩) 4 4) rfl
      have y2 : (World.setCell v4 ⟨g13, 0, none⟩ (.slice (some ⟨gR, 0, none⟩) 4 4)).cell? ⟨g13, 1, none⟩ = some (.slice none 0 0) := (blk_cell hp1 1).trans rfl
      have z2 := blk_frozen hp1 1
      have hp2 := blk_put hp1 1 (.slice none 0 0) rfl
      obtain ⟨uf, huf⟩ : ∃ x, (World.setCell v4 ⟨g13, 0, none⟩ (.slice (some ⟨gR, 0, none⟩) 4 4)).setCell ⟨g13, 1, none⟩ (.slice none 0 0) = x := ⟨_, rfl⟩
      have HBF : Aside0 (Below w3.heap.size w3 uf) := ⟨huf ▸ (HV4.out.setCell HGE.out _).setCell HGE.out _⟩
      have f11 := blk_far (p := ⟨g13, 1, none⟩) (blk_far (p := ⟨g13, 0, none⟩) F11.out neR (.slice (some ⟨gR, 0, none⟩) 4 4)) neR (.slice none 0 0)
      have f4 := blk_far (p := ⟨g13, 1, none⟩) (blk_far (p := ⟨g13, 0, none⟩) F4.out ne4 (.slice (some ⟨gR, 0, none⟩) 4 4)) ne4 (.slice none 0 0)
      have f0 := Kd.F_far (p := ⟨g13, 1, none⟩) (Kd.F_far (p := ⟨g13, 0, none⟩) F0.out.1 (fun k hk => by rw [hk]; exact FN.out) (.slice (some ⟨gR, 0, none⟩) 4 4)) (fun k hk => by rw [hk]; exact FN.out) (.slice none 0 0)
      have fx := blk_far (p := ⟨g13, 1, none⟩) (blk_far (p := ⟨g13, 0, none⟩) F0.out.2.1 FN.out (.slice (some ⟨gR, 0, none⟩) 4 4)) FN.out (.slice none 0 0)
      rw [huf] at hp2 f11 f4 f0 fx
      have HF := Aside0.mk hp2
      have HX := Aside0.mk (And.intro f11 (And.intro f4 (And.intro f0 (And.intro fx F0.out.2.2))))
      clear hp2 f11 f4 f0 fx ne4 neR hp1
      refine hall1 (i := 14) (by kernel_rfl) (by rfl) (fun K hK => ?_)
      go_simp
      clear huf y0 y1 y2 z0 z1 z2 F0 F4 F11 F13
      refine hK _ _ ⟨⟨_, HBF.out⟩, rfl⟩ ?_
      clear hK K
      refine wpAnyH_done (by kernel_rfl) ?_ _
      go_wp2
      obtain ⟨wl, hwl⟩ : ∃ x, (uf.alloc (Obj.cells #[.string ⟨#[111]⟩] 9)).alloc (Obj.cells #[.string ⟨#[99]⟩] 9) = x := ⟨_, rfl⟩
      rw [hwl]
      have ST : Aside0 (Below uf.heap.size uf wl) := ⟨hwl ▸ below_alloc (below1 _ _) _⟩
      clear hwl
      go_loopw [8] (fun i w' => i = .int .i64 0 ∧ w' = wl) (fun _ _ => 0)
      case atStart => exact ⟨rfl, rfl⟩
      case round =>
        obtain ⟨rfl, hwr⟩ := hrel
        rw [hwr]
        clear hwr
        have hg := blk_below HF.out ST.out
        have y0 : wl.cell? ⟨g13, 0, none⟩ = some (.slice (some ⟨gR, 0, none⟩) 4 4) := (blk_cell hg 0).trans rfl
        have y1 : wl.cell? ⟨g13, 1, none⟩ = some (.slice none 0 0) := (blk_cell hg 1).trans rfl
        have hw := blk_below (blk_below (blk_below (blk_below HBLK.out HB12.out) HB3.out) HBF.out) ST.out
        have x0 : wl.cell? ⟨W.heap.size, 0, none⟩ = some (.slice none 0 0) := (blk_cell hw 0).trans rfl
        have x1 : wl.cell? ⟨W.heap.size, 1, none⟩ = some (.slice none 0 0) := (blk_cell hw 1).trans rfl
        have z0 := blk_frozen hw 0
        have z1 := blk_frozen hw 1
        have hp1 := blk_put hw 0 (.slice (some ⟨gR, 0, none⟩) 4 4) rfl
        have x2 : (wl.setCell ⟨W.heap.size, 0, none⟩ (.slice (some ⟨gR, 0, none⟩) 4 4)).cell? ⟨W.heap.size, 1, none⟩ = some (.slice none 0 0) := (blk_cell hp1 1).trans rfl
        have z2 := blk_frozen hp1 1
        have HP2 := Aside0.mk (blk_put hp1 1 (.slice none 0 0) rfl)
        clear hg hw hp1
        go_wp2
        refine bodyPost_ret (results_cell_row rfl _ _ W.heap.size 26 #[.slice (some ⟨gR, 0, none⟩) 4 4, .slice none 0 0] (0, 0) _ rfl HP2.out Tryd.underlying26 rfl (by kernel_rfl)) rfl ?_
        have hx := HX.out
        have WN : ∀ g : Nat, W.heap.size < g → g ≠ W.heap.size := fun g h => by omega
        have k1 := blk_far (p := ⟨W.heap.size, 1, none⟩) (blk_far (p := ⟨W.heap.size, 0, none⟩) (blk_below hx.1 ST.out) (WN _ GW11.out) (.slice (some ⟨gR, 0, none⟩) 4 4)) (WN _ GW11.out) (.slice none 0 0)
        have k2 := blk_far (p := ⟨W.heap.size, 1, none⟩) (blk_far (p := ⟨W.heap.size, 0, none⟩) (blk_below hx.2.1 ST.out) (WN _ GW4.out) (.slice (some ⟨gR, 0, none⟩) 4 4)) (WN _ GW4.out) (.slice none 0 0)
        have k3 := f_put (m := 4) (c := 4) GW.out ⟨gR, 0, none⟩ (Kd.F_below hx.2.2.1 ST.out)
        have c3 := blk_far (p := ⟨W.heap.size, 1, none⟩) (blk_far (p := ⟨W.heap.size, 0, none⟩) (blk_below hx.2.2.2.1 ST.out) (WN _ GW.out) (.slice (some ⟨gR, 0, none⟩) 4 4)) (WN _ GW.out) (.slice none 0 0)
        have BB := join_below HB3.out (join_below HBF.out ST.out)
        have k4 := f_put (m := 4) (c := 4) N1.out ⟨gR, 0, none⟩ (Kd.F_below (Kd.F_below H1.out.2.1 HB12.out) BB)
        have c4 := blk_far (p := ⟨W.heap.size, 1, none⟩) (blk_far (p := ⟨W.heap.size, 0, none⟩) (blk_below (blk_below H1.out.2.2.1 HB12.out) BB) (WN _ N1.out) (.slice (some ⟨gR, 0, none⟩) 4 4)) (WN _ N1.out) (.slice none 0 0)
        have k5 := f_put (m := 4) (c := 4) N2.out ⟨gR, 0, none⟩ (Kd.F_below H2.out.2.1 BB)
        have c5 := blk_far (p := ⟨W.heap.size, 1, none⟩) (blk_far (p := ⟨W.heap.size, 0, none⟩) (blk_below H2.out.2.2.1 BB) (WN _ N2.out) (.slice (some ⟨gR, 0, none⟩) 4 4)) (WN _ N2.out) (.slice none 0 0)
        exact ⟨_, rfl, made_row k1 (range_new k2) hx.2.2.2.2.2 k3 (fun _ => re_none hx.2.2.2.2.1) H1.out.1 k4 (fun _ => re_none H1.out.2.2.2) H2.out.1 k5 (fun _ => re_none H2.out.2.2.2) (Nat.le_of_lt GW11.out) ⟨Nat.le_of_lt GW.out, ne_type c3 k1 (by decide)⟩ ⟨Nat.le_of_lt N1.out, ne_type c4 k1 (by decide)⟩ ⟨Nat.le_of_lt N2.out, ne_type c5 k1 (by decide)⟩ ⟨Nat.le_of_lt GW4.out, ne_type k2 k1 (by decide)⟩, ((join_below HB2.out (join_below HB3.out (join_below HBF.out ST.out))).setCell (Nat.le_refl _) _).setCell (Nat.le_refl _) _⟩
    · go_simp
      obtain ⟨v2, hv⟩ : ∃ x, v1.alloc (Obj.cells #[.int .i32 10, .int .i32 10, .int .i32 98, .int .i32 98] 56) = x := ⟨_, rfl⟩
      rw [hv]
      obtain ⟨g4, hg⟩ : ∃ x, v1.heap.size = x := ⟨_, rfl⟩
      rw [hg]
      have F4 : Aside0 (v2.heap[g4]? = some (.cells #[.int .i32 10, .int .i32 10, .int .i32 98, .int .i32 98] 56 (0, 0))) := ⟨by rw [← hv, ← hg]; exact blk_new _ _⟩
      have GW4 : Aside0 (W.heap.size < g4) := ⟨by have h1 := HW3.out; have h2 := HV1.out.size; omega⟩
      have ST : Aside0 (Below v1.heap.size v1 v2) := ⟨hv ▸ below1 _ _⟩
      have HV2 : Aside0 (Below w3.heap.size w3 v2) := ⟨join_below HV1.out ST.out⟩
      clear hv hg
      have F13 := Aside0.mk (blk_below F13.out ST.out)
      refine hK _ _ ⟨⟨_, HV2.out⟩, rfl⟩ ?_
      clear hK K ST
      ((refine takeQ (i := 5) (by rfl) (by kernel_rfl) (by kernel_rfl) (by kernel_rfl) ?_ ?_ ?_); (focus exact fun _ _ _ _ h => h); (focus exact ⟨⟨_, HV2.out⟩, rfl⟩); intro K hK; go_simp; (with_reducible refine hK _ ?_); clear hK K)
      ((refine takeQ (i := 6) (by rfl) (by kernel_rfl) (by kernel_rfl) (by kernel_rfl) ?_ ?_ ?_); (focus exact fun _ _ _ _ h => h); (focus exact ⟨⟨_, HV2.out⟩, rfl⟩); intro K hK; go_simp; (with_reducible refine hK _ ?_); clear hK K)
      refine hall1 (i := 0) (by kernel_rfl) (by rfl) (fun K hK => ?_)
      go_simp
      refine (one_any 97 _).mono ?_
      rintro e v3 ⟨a0, c0, E0, e0, X0, rfl, f1, f2, fX, f3, f4, f5, hb⟩
      have FN : Aside0 (a0 ≠ g13) := ⟨by have := blk_lt F13.out; omega⟩
      have G0 := Aside0.mk f5
      have GW : Aside0 (W.heap.size < a0) := ⟨by have h1 := HW3.out; have h2 := HV2.out.size; omega⟩
      have ST := Aside0.mk hb
      have HV3 : Aside0 (Below w3.heap.size w3 v3) := ⟨join_below HV2.out hb⟩
      have F0 := Aside0.mk (And.intro f2 (And.intro fX (And.intro f3 f1)))
      clear f1 f2 f3 f4 f5 fX hb
      have F13 := Aside0.mk (blk_below F13.out ST.out)
      have F4 := Aside0.mk (blk_below F4.out ST.out)
      refine hK _ _ ⟨⟨_, HV3.out⟩, rfl⟩ ?_
      clear hK K ST
      ((refine takeQ (i := 1) (by rfl) (by kernel_rfl) (by kernel_rfl) (by kernel_rfl) ?_ ?_ ?_); (focus exact fun _ _ _ _ h => h); (focus exact ⟨⟨_, HV3.out⟩, rfl⟩); intro K hK; go_simp; (with_reducible refine hK _ ?_); clear hK K)
      refine hall1 (i := 11) (by kernel_rfl) (by rfl) (fun K hK => ?_)
      go_simp
      obtain ⟨v4, hv⟩ : ∃ x, v3.alloc (Obj.cells #[.string ⟨#[97]⟩, .int .i64 0, .int .i64 1, .int .i64 2, .slice (some ⟨a0, 0, none⟩) 1 c0, .slice E0 0 e0, .string ⟨#[98]⟩, .int .i64 0, .int .i64 2, .int .i64 2, .slice (some ⟨g4, 0, none⟩) 2 2, .slice none 0 0, .string ⟨#[111]⟩, .int .i64 1, .int .i64 3, .int .i64 2, .slice (some ⟨a1, 0, none⟩) 1 c1, .slice A2 0 c2, .string ⟨#[99]⟩, .int .i64 2, .int .i64 4, .int .i64 2, .slice (some ⟨b1, 0, none⟩) 1 d1, .slice B2 0 d2] 50) = x := ⟨_, rfl⟩
      rw [hv]
      obtain ⟨gR, hg⟩ : ∃ x, v3.heap.size = x := ⟨_, rfl⟩
      rw [hg]
      have F11 : Aside0 (v4.heap[gR]? = some (.cells #[.string ⟨#[97]⟩, .int .i64 0, .int .i64 1, .int .i64 2, .slice (some ⟨a0, 0, none⟩) 1 c0, .slice E0 0 e0, .string ⟨#[98]⟩, .int .i64 0, .int .i64 2, .int .i64 2, .slice (some ⟨g4, 0, none⟩) 2 2, .slice none 0 0, .string ⟨#[111]⟩, .int .i64 1, .int .i64 3, .int .i64 2, .slice (some ⟨a1, 0, none⟩) 1 c1, .slice A2 0 c2, .string ⟨#[99]⟩, .int .i64 2, .int .i64 4, .int .i64 2, .slice (some ⟨b1, 0, none⟩) 1 d1, .slice B2 0 d2] 50 (0, 0))) := ⟨by rw [← hv, ← hg]; exact blk_new _ _⟩
      have GW11 : Aside0 (W.heap.size < gR) := ⟨by have h1 := HW3.out; have h2 := HV3.out.size; omega⟩
      have ST : Aside0 (Below v3.heap.size v3 v4) := ⟨hv ▸ below1 _ _⟩
      have HV4 : Aside0 (Below w3.heap.size w3 v4) := ⟨join_below HV3.out ST.out⟩
      clear hv hg
      have F13 := Aside0.mk (blk_below F13.out ST.out)
      have F4 := Aside0.mk (blk_below F4.out ST.out)
      have G0 := Aside0.mk (Nat.lt_of_lt_of_le G0.out ST.out.size)
      have F0 := Aside0.mk (And.intro (Kd.F_below F0.out.1 ST.out) (And.intro (blk_below F0.out.2.1 ST.out) F0.out.2.2))
      refine hK _ _ ⟨⟨_, HV4.out⟩, rfl⟩ ?_
      clear hK K ST
      ((refine takeQ (i := 12) (by rfl) (by kernel_rfl) (by kernel_rfl) (by kernel_rfl) ?_ ?_ ?_); (focus exact fun _ _ _ _ h => h); (focus exact ⟨⟨_, HV4.out⟩, rfl⟩); intro K hK; go_simp; (with_reducible refine hK _ ?_); clear hK K)
      have ne4 : g4 ≠ g13 := fun e => by have h := F4.out; rw [e, F13.out] at h; simp at h
      have neR : gR ≠ g13 := fun e => by have h := F11.out; rw [e, F13.out] at h; simp at h
      have y0 : World.cell? v4 ⟨g13, 0, none⟩ = some (.slice none 0 0) := (blk_cell F13.out 0).trans rfl
      have y1 : World.cell? v4 ⟨g13, 1, none⟩ = some (.slice none 0 0) := (blk_cell F13.out 1).trans rfl
      have z0 := blk_frozen F13.out 0
      have z1 := blk_frozen F13.out 1
      have hp1 := blk_put F13.out 0 (.slice (some ⟨gR, 0, none⟩) 4 4) rfl
      have y2 : (World.setCell v4 ⟨g13, 0, none⟩ (.slice (some ⟨gR, 0, none⟩) 4 4)).cell? ⟨g13, 1, none⟩ = some (.slice none 0 0) := (blk_cell hp1 1).trans rfl
      have z2 := blk_frozen hp1 1
      have hp2 := blk_put hp1 1 (.slice none 0 0) rfl
      obtain ⟨uf, huf⟩ : ∃ x, (World.setCell v4 ⟨g13, 0, none⟩ (.slice (some ⟨gR, 0, none⟩) 4 4)).setCell ⟨g13, 1, none⟩ (.slice none 0 0) = x := ⟨_, rfl⟩
      have HBF : Aside0 (Below w3.heap.size w3 uf) := ⟨huf ▸ (HV4.out.setCell HGE.out _).setCell HGE.out _⟩
      have f11 := blk_far (p := ⟨g13, 1, none⟩) (blk_far (p := ⟨g13, 0, none⟩) F11.out neR (.slice (some ⟨gR, 0, none⟩) 4 4)) neR (.slice none 0 0)
      have f4 := blk_far (p := ⟨g13, 1, none⟩) (blk_far (p := ⟨g13, 0, none⟩) F4.out ne4 (.slice (some ⟨gR, 0, none⟩) 4 4)) ne4 (.slice none 0 0)
      have f0 := Kd.F_far (p := ⟨g13, 1, none⟩) (Kd.F_far (p := ⟨g13, 0, none⟩) F0.out.1 (fun k hk => by rw [hk]; exact FN.out) (.slice (some ⟨gR, 0, none⟩) 4 4)) (fun k hk => by rw [hk]; exact FN.out) (.slice none 0 0)
      have fx := blk_far (p := ⟨g13, 1, none⟩) (blk_far (p := ⟨g13, 0, none⟩) F0.out.2.1 FN.out (.slice (some ⟨gR, 0, none⟩) 4 4)) FN.out (.slice none 0 0)
      rw [huf] at hp2 f11 f4 f0 fx
      have HF := Aside0.mk hp2
      have HX := Aside0.mk (And.intro f11 (And.intro f4 (And.intro f0 (And.intro fx F0.out.2.2))))
      clear hp2 f11 f4 f0 fx ne4 neR hp1
      refine hall1 (i := 14) (by kernel_rfl) (by rfl) (fun K hK => ?_)
      go_simp
      clear huf y0 y1 y2 z0 z1 z2 F0 F4 F11 F13
      refine hK _ _ ⟨⟨_, HBF.out⟩, rfl⟩ ?_
      clear hK K
      refine wpAnyH_done (by kernel_rfl) ?_ _
      go_wp2
      obtain ⟨wl, hwl⟩ : ∃ x, (uf.alloc (Obj.cells #[.string ⟨#[111]⟩] 9)).alloc (Obj.cells #[.string ⟨#[99]⟩] 9) = x := ⟨_, rfl⟩
      rw [hwl]
      have ST : Aside0 (Below uf.heap.size uf wl) := ⟨hwl ▸ below_alloc (below1 _ _) _⟩
      clear hwl
      go_loopw [8] (fun i w' => i = .int .i64 0 ∧ w' = wl) (fun _ _ => 0)
      case atStart => exact ⟨rfl, rfl⟩
      case round =>
        obtain ⟨rfl, hwr⟩ := hrel
        rw [hwr]
        clear hwr
        have hg := blk_below HF.out ST.out
        have y0 : wl.cell? ⟨g13, 0, none⟩ = some (.slice (some ⟨gR, 0, none⟩) 4 4) := (blk_cell hg 0).trans rfl
        have y1 : wl.cell? ⟨g13, 1, none⟩ = some (.slice none 0 0) := (blk_cell hg 1).trans rfl
        have hw := blk_below (blk_below (blk_below (blk_below HBLK.out HB12.out) HB3.out) HBF.out) ST.out
        have x0 : wl.cell? ⟨W.heap.size, 0, none⟩ = some (.slice none 0 0) := (blk_cell hw 0).trans rfl
        have x1 : wl.cell? ⟨W.heap.size, 1, none⟩ = some (.slice none 0 0) := (blk_cell hw 1).trans rfl
        have z0 := blk_frozen hw 0
        have z1 := blk_frozen hw 1
        have hp1 := blk_put hw 0 (.slice (some ⟨gR, 0, none⟩) 4 4) rfl
        have x2 : (wl.setCell ⟨W.heap.size, 0, none⟩ (.slice (some ⟨gR, 0, none⟩) 4 4)).cell? ⟨W.heap.size, 1, none⟩ = some (.slice none 0 0) := (blk_cell hp1 1).trans rfl
        have z2 := blk_frozen hp1 1
        have HP2 := Aside0.mk (blk_put hp1 1 (.slice none 0 0) rfl)
        clear hg hw hp1
        go_wp2
        refine bodyPost_ret (results_cell_row rfl _ _ W.heap.size 26 #[.slice (some ⟨gR, 0, none⟩) 4 4, .slice none 0 0] (0, 0) _ rfl HP2.out Tryd.underlying26 rfl (by kernel_rfl)) rfl ?_
        have hx := HX.out
        have WN : ∀ g : Nat, W.heap.size < g → g ≠ W.heap.size := fun g h => by omega
        have k1 := blk_far (p := ⟨W.heap.size, 1, none⟩) (blk_far (p := ⟨W.heap.size, 0, none⟩) (blk_below hx.1 ST.out) (WN _ GW11.out) (.slice (some ⟨gR, 0, none⟩) 4 4)) (WN _ GW11.out) (.slice none 0 0)
        have k2 := blk_far (p := ⟨W.heap.size, 1, none⟩) (blk_far (p := ⟨W.heap.size, 0, none⟩) (blk_below hx.2.1 ST.out) (WN _ GW4.out) (.slice (some ⟨gR, 0, none⟩) 4 4)) (WN _ GW4.out) (.slice none 0 0)
        have k3 := f_put (m := 4) (c := 4) GW.out ⟨gR, 0, none⟩ (Kd.F_below hx.2.2.1 ST.out)
        have c3 := blk_far (p := ⟨W.heap.size, 1, none⟩) (blk_far (p := ⟨W.heap.size, 0, none⟩) (blk_below hx.2.2.2.1 ST.out) (WN _ GW.out) (.slice (some ⟨gR, 0, none⟩) 4 4)) (WN _ GW.out) (.slice none 0 0)
        have BB := join_below HB3.out (join_below HBF.out ST.out)
        have k4 := f_put (m := 4) (c := 4) N1.out ⟨gR, 0, none⟩ (Kd.F_below (Kd.F_below H1.out.2.1 HB12.out) BB)
        have c4 := blk_far (p := ⟨W.heap.size, 1, none⟩) (blk_far (p := ⟨W.heap.size, 0, none⟩) (blk_below (blk_below H1.out.2.2.1 HB12.out) BB) (WN _ N1.out) (.slice (some ⟨gR, 0, none⟩) 4 4)) (WN _ N1.out) (.slice none 0 0)
        have k5 := f_put (m := 4) (c := 4) N2.out ⟨gR, 0, none⟩ (Kd.F_below H2.out.2.1 BB)
        have c5 := blk_far (p := ⟨W.heap.size, 1, none⟩) (blk_far (p := ⟨W.heap.size, 0, none⟩) (blk_below H2.out.2.2.1 BB) (WN _ N2.out) (.slice (some ⟨gR, 0, none⟩) 4 4)) (WN _ N2.out) (.slice none 0 0)
        exact ⟨_, rfl, made_row k1 (range_new k2) hx.2.2.2.2.2 k3 (fun _ => re_none hx.2.2.2.2.1) H1.out.1 k4 (fun _ => re_none H1.out.2.2.2) H2.out.1 k5 (fun _ => re_none H2.out.2.2.2) (Nat.le_of_lt GW11.out) ⟨Nat.le_of_lt GW.out, ne_type c3 k1 (by decide)⟩ ⟨Nat.le_of_lt N1.out, ne_type c4 k1 (by decide)⟩ ⟨Nat.le_of_lt N2.out, ne_type c5 k1 (by decide)⟩ ⟨Nat.le_of_lt GW4.out, ne_type k2 k1 (by decide)⟩, ((join_below HB2.out (join_below HB3.out (join_below HBF.out ST.out))).setCell (Nat.le_refl _) _).setCell (Nat.le_refl _) _⟩
end Go.Proofs.YthdfmbmbjpmlaaaDoor.Rn
/- gobolaw11.told. -/
set_option linter.unusedVariables false
set_option linter.unusedSimpArgs false
namespace Go.Proofs.YthdfmbmbjpmlaaaDoor.Rn
open Go Go.RowKit Go.Proofs.YthdfmbmbjpmlaaaDoorW.PrintWords Go.Proofs.YthdfmbmbjpmlaaaDoorW.PrintLast Go.Proofs.YthdfmbmbjpmlaaaDoorW.PrintMore
def tokA : Tok := ⟨⟨#[97]⟩, 0, 1, oneT 97⟩
/-- .. and one more, which is there twice -/
def twiceT : List Tok := madeT ++ [tokA]
theorem rul_nil {W : World} {A : Option Addr} : kRul.C W A 0 [] := ⟨rfl, by decide, fun h0 => absurd h0 (by decide)⟩
theorem pt_nil {W : World} {A : Option Addr} : kPt.C W A 0 [] := ⟨rfl, by decide, fun h0 => absurd h0 (by decide)⟩
theorem tx_nil {W : World} {A : Option Addr} : Kd.string.C W A 0 [] := ⟨rfl, by decide, fun h0 => absurd h0 (by decide)⟩
theorem tok_nil {W : World} {A : Option Addr} : kTok.C W A 0 [] := ⟨rfl, by decide, fun h0 => absurd h0 (by decide)⟩
theorem told_count : gram_Count.f 9 7 [] [] [⟨4, [], [], []⟩] = some (2, 2) := by kernel_rfl
/-- what region 5 comes to -/
def ToldMid (w3 : World) (b6 : Nat) (W : World) : Prop := ∃ A c, 5 ≤ c ∧ W.heap[b6]? = some (.cells #[.slice A 5 c, .slice none 0 0] 26 (0, 0)) ∧ kTok.C W A 5 twiceT ∧ Below w3.heap.size w3 W
theorem told_end {w3 w : World} {b6 : Nat} {v : Value} (hb : Below w3.heap.size w3 w) (h6 : w3.heap.size ≤ b6) (hN : Kd.N kTok 50 w w3.heap.size (fun k => k ≠ b6) v twiceT) {u : Value} (hblk : w.heap[b6]? = some (.cells #[u, .slice none 0 0] 26 (0, 0))) :
    ToldMid w3 b6 (w.setCell ⟨b6, 0, none⟩ v) := by
  have hN2 := Kd.N_far hN (p := ⟨b6, 0, none⟩) (fun k hk => hk) v
  obtain ⟨A, c, hv⟩ := Kd.N_slice hN
  subst hv
  obtain ⟨_, h1, h2⟩ := Kd.N_reads' hN2
  exact ⟨A, c, h1, blk_put hblk 0 _ rfl, h2, hb.setCell h6 _⟩
set_option maxHeartbeats 8000000 in
set_option maxRecDepth 100000 in
theorem told_any (h0 : ChkC [] [] 6 0) (h1 : ChkC madeT [] 0 0) (h2 : ChkC twiceT [] 4 4) (W : World) (hO : OwnAt W) :
    Calls Tryd.prog 8 #[] W fun e W' => e = .returned (.bool true) ∧ Below W.heap.size W W' := by
  have H0 := Aside0.mk h0
  have H1 := Aside0.mk h1
  have H2 := Aside0.mk h2
  have HO := Aside0.mk hO
  have hu23 := Tryd.underlying23
  clear h0 h1 h2 hO
  go_enter Tryd.func8, Tryd.ntmps8
  simp only [List.append]
  go_wp2_with fail
  refine (make_nil _).mono ?_
  rintro e w1 ⟨v, rfl, hN, hb⟩
  obtain ⟨gR, cap, rfl, hg, hg2, X, hX⟩ := Kd.N_form hN (show 0 < madeT.length from by decide)
  have hl4 : madeT.length = 4 := rfl
  rw [hl4] at hN ⊢
  have HB1 := Aside0.mk hb
  have HN := Aside0.mk hN
  have HgR := Aside0.mk hg2
  clear hN hb hg hg2 hX hl4
  go_wp2_with fail
  obtain ⟨b1, hb1⟩ : ∃ x, w1.heap.size = x := ⟨_, rfl⟩
  obtain ⟨w2, hw2⟩ : ∃ x, w1.alloc (.cells #[.slice (some ⟨gR, 0, none⟩) 4 cap, .slice none 0 0] 26) = x := ⟨_, rfl⟩
  have HB2 : Aside0 (Below W.heap.size W w2) := ⟨hw2 ▸ below_alloc HB1.out _⟩
  have HN2 : Aside0 (Kd.N kTok 50 w2 W.heap.size (fun k => W.heap.size ≤ k) (.slice (some ⟨gR, 0, none⟩) 4 cap) madeT) := ⟨hw2 ▸ Kd.N_alloc HN.out _⟩
  have HT1 : Aside0 (w2.heap[b1]? = some (.cells #[.slice (some ⟨gR, 0, none⟩) 4 cap, .slice none 0 0] 26 (0, 0))) := ⟨by rw [← hw2, ← hb1]; exact blk_new _ _⟩
  have HGR : Aside0 (gR < w2.heap.size ∧ b1 < w2.heap.size ∧ gR ≠ b1) := ⟨by have := HgR.out; have h1 := blk_lt HT1.out; refine ⟨?_, h1, ?_⟩ <;> omega⟩
  clear HN HB1 HgR
  rw [hw2, hb1]
  clear hb1 hw2
  have hc0 := H0.out none 0 none 0 w2 tok_nil rul_nil (Kd.C_below HO.out HB2.out)
  refine hc0.mono ?_
  rintro e w3 ⟨rfl, hb⟩
  have HS3 := Aside0.mk hb
  have HB3 := Aside0.mk (join_below HB2.out hb)
  clear hb hc0
  go_wp2_with fail
  refine (gram_Count.calls 9 7 none 0 [] none 0 [] (some ⟨w3.heap.size, 0, none⟩) 1 [⟨4, [], [], []⟩] 2 2 _ tx_nil (Nat.le_refl _) tx_nil (Nat.le_refl _) (row_new (k := kPt) (blk_new w3 _) (by decide) (fun j x hx => ?_)) (Nat.le_refl _) told_count).mono ?_
  · match j, hx with
    | 0, hx =>
      obtain rfl := Option.some.inj hx
      refine ⟨_, rfl, k37_mk _ ⟨4, [], [], []⟩ (Nat.zero_le 0) (tx_nil (A := none)) (Nat.zero_le 0) (tx_nil (A := none)) (Nat.zero_le 0) (pt_nil (A := none)), fun i u hu => ?_⟩
      match i, hu with
      | 0, hu => exact hu
      | 1, hu => exact hu
      | 2, hu => exact hu
      | 3, hu => exact hu
      | i + 4, hu => simp at hu
    | j + 1, hx => simp at hx
  rintro e w4 ⟨rfl, hb⟩
  have HS4 := Aside0.mk (join_below HS3.out (join_below (below1 w3 _) hb))
  have HB4 := Aside0.mk (join_below HB3.out (join_below (below1 w3 _) hb))
  have hT := blk_below HT1.out HS4.out
  have y0 : w4.cell? ⟨b1, 0, none⟩ = some (.slice (some ⟨gR, 0, none⟩) 4 cap) := (blk_cell hT 0).trans rfl
  have y1 : w4.cell? ⟨b1, 1, none⟩ = some (.slice none 0 0) := (blk_cell hT 1).trans rfl
  have HT4 := Aside0.mk hT
  have HN4 : Aside0 (Kd.N kTok 50 w4 W.heap.size (fun k => W.heap.size ≤ k) (.slice (some ⟨gR, 0, none⟩) 4 cap) madeT) := ⟨Kd.N_below HN2.out HS4.out⟩
  have HG4 : Aside0 (gR < w4.heap.size ∧ b1 < w4.heap.size) := ⟨by have h1 := HGR.out; have h2 := HS4.out.size; exact ⟨by omega, by omega⟩⟩
  clear hb hT HS3 HS4 HN2 HT1 HB2 HB3
  go_upto_region 5 with (fail)
  obtain ⟨b6, hb6⟩ : ∃ x, w4.heap.size = x := ⟨_, rfl⟩
  obtain ⟨w5, hw5⟩ : ∃ x, w4.alloc (.cells #[.slice (some ⟨gR, 0, none⟩) 4 cap, .slice none 0 0] 26) = x := ⟨_, rfl⟩
  rw [hw5, hb6]
  have HT6 : Aside0 (w5.heap[b6]? = some (.cells #[.slice (some ⟨gR, 0, none⟩) 4 cap, .slice none 0 0] 26 (0, 0))) := ⟨by rw [← hw5, ← hb6]; exact blk_new _ _⟩
  have HB45 : Aside0 (Below w4.heap.size w4 w5) := ⟨hw5 ▸ below1 _ _⟩
  have HLE : Aside0 (w4.heap.size ≤ b6 ∧ b6 < w5.heap.size) := ⟨by have := blk_lt HT6.out; exact ⟨by omega, this⟩⟩
  have HT5 : Aside0 (w5.heap[b1]? = some (.cells #[.slice (some ⟨gR, 0, none⟩) 4 cap, .slice none 0 0] 26 (0, 0))) := ⟨blk_below HT4.out HB45.out⟩
  have HN5 : Aside0 (Kd.N kTok 50 w5 W.heap.size (fun k => W.heap.size ≤ k ∧ k < w4.heap.size) (.slice (some ⟨gR, 0, none⟩) 4 cap) madeT) := ⟨Kd.N_below (Kd.N_bound HN4.out) HB45.out⟩
  clear hw5 hb6 y0 y1
  go_cut [] (fun W => Aside0 (ToldMid w4 b6 W))
  case first =>
    have q0 : ∀ p : Later w4, p.wx.cell? ⟨b1, 0, none⟩ = some (.slice (some ⟨gR, 0, none⟩) 4 cap) := fun p => cell_after p.below ((blk_cell HT4.out 0).trans rfl)
    obtain ⟨cs, hcl, hFK, hcc, _⟩ := Kd.N_elem HN4.out tokA 0 (by decide) (by decide)
    have hA : madeT.getD (0 : Int).toNat tokA = tokA := rfl
    rw [hA] at hFK
    have HFK := Aside0.mk hFK
    obtain ⟨A4, c4, A5, c5, rfl, _, _, _, _⟩ := k50_open (Kd.FK_now hFK)
    have x0 : ∀ p : Later w4, p.wx.cell? ⟨gR, 0, none⟩ = some (.string tokA.f0) := fun p => cell_after p.below (hcc 0 _ rfl)
    have x1 : ∀ p : Later w4, p.wx.cell? ⟨gR, 1, none⟩ = some (.int .i64 tokA.f1) := fun p => cell_after p.below (hcc 1 _ rfl)
    have x2 : ∀ p : Later w4, p.wx.cell? ⟨gR, 2, none⟩ = some (.int .i64 tokA.f2) := fun p => cell_after p.below (hcc 2 _ rfl)
    have x3 : ∀ p : Later w4, p.wx.cell? ⟨gR, 3, none⟩ = some (.int .i64 tokA.f3.f0) := fun p => cell_after p.below (hcc 3 _ rfl)
    have x4 : ∀ p : Later w4, p.wx.cell? ⟨gR, 4, none⟩ = some (.slice A4 tokA.f3.f1.length c4) := fun p => cell_after p.below (hcc 4 _ rfl)
    have x5 : ∀ p : Later w4, p.wx.cell? ⟨gR, 5, none⟩ = some (.slice A5 tokA.f3.f2.length c5) := fun p => cell_after p.below (hcc 5 _ rfl)
    clear hcc hFK hA hcl
    obtain ⟨wd, hwd⟩ : ∃ x, w5.drew = x := ⟨_, rfl⟩
    have HL5 : Aside0 (Below w5.heap.size w5 wd) := ⟨hwd ▸ below_drew1 (Below.refl _ _)⟩
    have HL : Aside0 (Below w4.heap.size w4 wd) := ⟨join_below HB45.out HL5.out⟩
    have hund : undef = Value.tuple #[] := rfl
    refine wp_region_held (S := fun w' => ∃ p : Later w4, w' = p.wx) (by kernel_rfl) ?_
    change wpAnyH _ _ _ _ _ _ _ _ (World.drew _)
    rw [hwd]
    clear hwd
    ((refine takeQ (i := 1) (by rfl) (by kernel_rfl) (by kernel_rfl) (by kernel_rfl) ?_ ?_ ?_); (focus exact fun _ _ _ _ h => h); (focus exact ⟨⟨_, HL.out⟩, rfl⟩); intro K hK; go_simp; (with_reducible refine hK _ ?_); clear hK K)
    ((refine takeQ (i := 2) (by rfl) (by kernel_rfl) (by kernel_rfl) (by kernel_rfl) ?_ ?_ ?_); (focus exact fun _ _ _ _ h => h); (focus exact ⟨⟨_, HL.out⟩, rfl⟩); intro K hK; go_simp; (with_reducible refine hK _ ?_); clear hK K)
    ((refine takeQ (i := 4) (by rfl) (by kernel_rfl) (by kernel_rfl) (by kernel_rfl) ?_ ?_ ?_); (focus exact fun _ _ _ _ h => h); (focus exact ⟨⟨_, HL.out⟩, rfl⟩); intro K hK; go_simp; (with_reducible refine hK _ ?_); clear hK K)
    ((refine takeQ (i := 5) (by rfl) (by kernel_rfl) (by kernel_rfl) (by kernel_rfl) ?_ ?_ ?_); (focus exact fun _ _ _ _ h => h); (focus exact ⟨⟨_, HL.out⟩, rfl⟩); intro K hK; go_simp; (with_reducible refine hK _ ?_); clear hK K)
    ((refine takeQ (i := 6) (by rfl) (by kernel_rfl) (by kernel_rfl) (by kernel_rfl) ?_ ?_ ?_); (focus exact fun _ _ _ _ h => h); (focus exact ⟨⟨_, HL.out⟩, rfl⟩); intro K hK; go_simp; (with_reducible refine hK _ ?_); clear hK K)
    ((refine takeQ (i := 7) (by rfl) (by kernel_rfl) (by kernel_rfl) (by kernel_rfl) ?_ ?_ ?_); (focus exact fun _ _ _ _ h => h); (focus exact ⟨⟨_, HL.out⟩, rfl⟩); intro K hK; go_simp; (with_reducible refine hK _ ?_); clear hK K)
    clear q0 x0 x1 x2 x3 x4 x5
    have HD6 := Aside0.mk (blk_below HT6.out HL5.out)
    have HDN := Aside0.mk (Kd.N_below HN5.out HL5.out)
    have HDK : Aside0 (Kd.FK kTok wd (fun k => (W.heap.size ≤ k ∧ k ≠ gR) ∧ k < w4.heap.size) tokA [.string tokA.f0, .int .i64 tokA.f1, .int .i64 tokA.f2, .int .i64 tokA.f3.f0, .slice A4 tokA.f3.f1.length c4, .slice A5 tokA.f3.f2.length c5]) := ⟨Kd.FK_below (Kd.FK_bound HFK.out) HL.out⟩
    clear HFK HN5 HT6 HT5 HT4 HN4
    refine hall2 (i := 0) (j := 8) (by kernel_rfl) (by rfl) (by rfl) (fun K hK => ?_) (fun K hK => ?_)
    · go_simp
      obtain ⟨u1, hv⟩ : ∃ x, wd.alloc (.cells #[] 50) = x := ⟨_, rfl⟩
      rw [hv]
      obtain ⟨g0, hg⟩ : ∃ x, wd.heap.size = x := ⟨_, rfl⟩
      rw [hg]
      have ST : Aside0 (Below wd.heap.size wd u1) := ⟨hv ▸ below1 _ _⟩
      have BK : Aside0 (u1.heap[g0]? = some (.cells #[] 50 (0, 0))) := ⟨by rw [← hv, ← hg]; exact blk_new _ _⟩
      have GE0 : Aside0 (b6 < g0 ∧ w4.heap.size ≤ g0) := ⟨by have h1 := blk_lt HD6.out; have h2 := HLE.out; omega⟩
      have GS : Aside0 (wd.heap.size = g0) := ⟨hg⟩
      clear hv hg
      have HDN := Aside0.mk (Kd.N_below HDN.out ST.out)
      have HDK := Aside0.mk (Kd.FK_below HDK.out ST.out)
      have HD6 := Aside0.mk (blk_below HD6.out ST.out)
      have HL := Aside0.mk (join_below HL.out ST.out)
      have N0 : Aside0 (Kd.N kTok 50 u1 w4.heap.size (fun k => k ≠ b6) (.slice (some ⟨g0, 0, none⟩) 0 0) []) := ⟨n_empty kTok _ BK.out rfl GE0.out.2 (by have := GE0.out.1; omega)⟩
      have L0 : Aside0 (g0 < u1.heap.size) := ⟨blk_lt BK.out⟩
      clear BK ST GS
      refine hK _ _ ⟨⟨_, HL.out⟩, rfl⟩ ?_
      clear hK K
      refine hall2 (i := 3) (j := 8) (by kernel_rfl) (by rfl) (by rfl) (fun K hK => ?_) (fun K hK => ?_)
      · refine Kd.N_append_rows_step kTok w4.heap.size (by rfl) (.tmp 23) (.tmp 25) 23 50 (.agg #[.string ⟨#[]⟩, .int .i64 0, .int .i64 0, .int .i64 0, .slice none 0 0, .slice none 0 0]) 88 rfl Tryd.underlying23 (by kernel_rfl) rfl (by decide) (by decide) (.slice (some ⟨g0, 0, none⟩) 0 0) [] madeT (some ⟨gR, 0, none⟩) 4 cap (fun k => k ≠ b6) (fun k => W.heap.size ≤ k ∧ k < w4.heap.size) rfl rfl N0.out (Kd.N_F HDN.out) (fun k hk => ⟨by have := HLE.out; omega, by have := GE0.out; show ¬ some k = some g0; intro e; injection e; omega⟩) (fun k hk => by have := blk_lt HD6.out; omega) HL.out HL.out.size (by decide) ?_
        intro v3 u2 hN hB hg hat
        have ne6 : some b6 ≠ (Value.slice (some ⟨g0, 0, none⟩) 0 0).ownBlock := by have := GE0.out; show ¬ some b6 = some g0; intro e; injection e; omega
        have N3 := Aside0.mk hN
        have HD6 := Aside0.mk ((hg.block b6 (blk_lt HD6.out) ne6).trans HD6.out)
        have HL := Aside0.mk hB
        have LT3 : Aside0 (u1.heap.size ≤ u2.heap.size) := ⟨hg.size⟩
        have HDK := Aside0.mk (Kd.FK_grown HDK.out hg (fun k hk => by have h2 := GE0.out; show ¬ some k = some g0; intro e; injection e with e; omega))
        have HDN := Aside0.mk (Kd.N_grown HDN.out hg (fun k hk => by have h2 := GE0.out; show ¬ some k = some g0; intro e; injection e with e; omega))
        clear hN hB hg ne6 hat
        refine hK _ _ ⟨⟨_, HL.out⟩, rfl⟩ ?_
        clear hK K
        refine hall1 (i := 8) (by kernel_rfl) (by rfl) (fun K hK => ?_)
        go_simp
        obtain ⟨u3, hv⟩ : ∃ x, u2.alloc (.cells #[.string tokA.f0, .int .i64 tokA.f1, .int .i64 tokA.f2, .int .i64 tokA.f3.f0, .slice A4 tokA.f3.f1.length c4, .slice A5 tokA.f3.f2.length c5] 50) = x := ⟨_, rfl⟩
        rw [hv]
        obtain ⟨g8, hg⟩ : ∃ x, u2.heap.size = x := ⟨_, rfl⟩
        rw [hg]
        have ST : Aside0 (Below u2.heap.size u2 u3) := ⟨hv ▸ below1 _ _⟩
        have BK : Aside0 (u3.heap[g8]? = some (.cells #[.string tokA.f0, .int .i64 tokA.f1, .int .i64 tokA.f2, .int .i64 tokA.f3.f0, .slice A4 tokA.f3.f1.length c4, .slice A5 tokA.f3.f2.length c5] 50 (0, 0))) := ⟨by rw [← hv, ← hg]; exact blk_new _ _⟩
        have GE8 : Aside0 (b6 < g8 ∧ w4.heap.size ≤ g8) := ⟨by have h1 := blk_lt HD6.out; have h2 := HLE.out; omega⟩
        have GS : Aside0 (u2.heap.size = g8) := ⟨hg⟩
        clear hv hg
        have HDN := Aside0.mk (Kd.N_below HDN.out ST.out)
        have HDK := Aside0.mk (Kd.FK_below HDK.out ST.out)
        have HD6 := Aside0.mk (blk_below HD6.out ST.out)
        have HL := Aside0.mk (join_below HL.out ST.out)
        have F8 : Aside0 (Kd.F kTok u3 (fun q => q = g8 ∨ ((W.heap.size ≤ q ∧ q ≠ gR) ∧ q < w4.heap.size)) (some ⟨g8, 0, none⟩) 1 [tokA]) := ⟨f_one BK.out rfl HDK.out⟩
        have L8 : Aside0 (g8 < u3.heap.size) := ⟨blk_lt BK.out⟩
        have NE : Aside0 (some g8 ≠ v3.ownBlock) := ⟨fun e => by have h1 := Kd.N_lt N3.out g8 e.symm; have h2 := GS.out; omega⟩
        have N3 := Aside0.mk (Kd.N_below N3.out ST.out)
        clear BK ST GS
        refine hK _ _ ⟨⟨_, HL.out⟩, rfl⟩ ?_
        clear hK K
        refine hall1 (i := 9) (by kernel_rfl) (by rfl) (fun K hK => ?_)
        refine Kd.N_append_rows_step kTok w4.heap.size (by rfl) (.tmp 26) (.tmp 31) 23 50 (.agg #[.string ⟨#[]⟩, .int .i64 0, .int .i64 0, .int .i64 0, .slice none 0 0, .slice none 0 0]) 88 rfl Tryd.underlying23 (by kernel_rfl) rfl (by decide) (by decide) v3 madeT [tokA] (some ⟨g8, 0, none⟩) 1 1 (fun k => k ≠ b6) (fun q => q = g8 ∨ ((W.heap.size ≤ q ∧ q ≠ gR) ∧ q < w4.heap.size)) rfl rfl N3.out F8.out (fun k hk => ⟨by have := HLE.out; have := GE8.out; rcases hk with hk | hk <;> omega, by rcases hk with hk | hk; (· rw [hk]; exact NE.out); (· intro e; have := Kd.N_base N3.out k e.symm; omega)⟩) (fun k hk => by have := blk_lt HD6.out; omega) HL.out HL.out.size (by decide) ?_
        intro v9 u4 hN hB hg hat
        have N9 := Aside0.mk hN
        have HD6 := Aside0.mk ((hg.block b6 (blk_lt HD6.out) (fun e => (N3.out.1 b6 e.symm) rfl)).trans HD6.out)
        have HL := Aside0.mk hB
        clear hN hB hg hat
        refine hK _ _ ⟨⟨_, HL.out⟩, rfl⟩ ?_
        clear hK K
        ((refine takeQ (i := 10) (by rfl) (by kernel_rfl) (by kernel_rfl) (by kernel_rfl) ?_ ?_ ?_); (focus exact fun _ _ _ _ h => h); (focus exact ⟨⟨_, HL.out⟩, rfl⟩); intro K hK; go_simp; (with_reducible refine hK _ ?_); clear hK K)
        refine hall1 (i := 11) (by kernel_rfl) (by rfl) (fun K hK => ?_)
        obtain ⟨A9, c9, hv9⟩ := Kd.N_slice N9.out
        subst hv9
        have y0 : World.cell? u4 ⟨b6, 0, none⟩ = some (.slice (some ⟨gR, 0, none⟩) 4 cap) := (blk_cell HD6.out 0).trans rfl
        have z0 := blk_frozen HD6.out 0
        go_simp
        have HE := Aside0.mk (told_end HL.out HLE.out.1 N9.out HD6.out)
        refine hK _ _ ⟨⟨_, HE.out.elim fun _ h => h.elim fun _ h => h.2.2.2⟩, rfl⟩ ?_
        clear hK K y0 z0
        refine wpAnyH_done (by kernel_rfl) ?_ _
        go_wp2
        go_meet
        case rel => exact HE
      · go_simp
        obtain ⟨u2, hv⟩ : ∃ x, u1.alloc (.cells #[.string tokA.f0, .int .i64 tokA.f1, .int .i64 tokA.f2, .int .i64 tokA.f3.f0, .slice A4 tokA.f3.f1.length c4, .slice A5 tokA.f3.f2.length c5] 50) = x := ⟨_, rfl⟩
        rw [hv]
        obtain ⟨g8, hg⟩ : ∃ x, u1.heap.size = x := ⟨_, rfl⟩
        rw [hg]
        have ST : Aside0 (Below u1.heap.size u1 u2) := ⟨hv ▸ below1 _ _⟩
        have BK : Aside0 (u2.heap[g8]? = some (.cells #[.string tokA.f0, .int .i64 tokA.f1, .int .i64 tokA.f2, .int .i64 tokA.f3.f0, .slice A4 tokA.f3.f1.length c4, .slice A5 tokA.f3.f2.length c5] 50 (0, 0))) := ⟨by rw [← hv, ← hg]; exact blk_new _ _⟩
        have GE8 : Aside0 (b6 < g8 ∧ w4.heap.size ≤ g8) := ⟨by have h1 := blk_lt HD6.out; have h2 := HLE.out; omega⟩
        have GS : Aside0 (u1.heap.size = g8) := ⟨hg⟩
        clear hv hg
        have HDN := Aside0.mk (Kd.N_below HDN.out ST.out)
        have HDK := Aside0.mk (Kd.FK_below HDK.out ST.out)
        have HD6 := Aside0.mk (blk_below HD6.out ST.out)
        have HL := Aside0.mk (join_below HL.out ST.out)
        have F8 : Aside0 (Kd.F kTok u2 (fun q => q = g8 ∨ ((W.heap.size ≤ q ∧ q ≠ gR) ∧ q < w4.heap.size)) (some ⟨g8, 0, none⟩) 1 [tokA]) := ⟨f_one BK.out rfl HDK.out⟩
        have L8 : Aside0 (g8 < u2.heap.size) := ⟨blk_lt BK.out⟩
        have N0 := Aside0.mk (Kd.N_below N0.out ST.out)
        have NE0 : Aside0 (g8 ≠ g0) := ⟨by have h1 := L0.out; have h2 := GS.out; omega⟩
        clear BK ST GS
        refine hK _ _ ⟨⟨_, HL.out⟩, rfl⟩ ?_
        clear hK K
        refine hall1 (i := 3) (by kernel_rfl) (by rfl) (fun K hK => ?_)
        refine Kd.N_append_rows_step kTok w4.heap.size (by rfl) (.tmp 23) (.tmp 25) 23 50 (.agg #[.string ⟨#[]⟩, .int .i64 0, .int .i64 0, .int .i64 0, .slice none 0 0, .slice none 0 0]) 88 rfl Tryd.underlying23 (by kernel_rfl) rfl (by decide) (by decide) (.slice (some ⟨g0, 0, none⟩) 0 0) [] madeT (some ⟨gR, 0, none⟩) 4 cap (fun k => k ≠ b6) (fun k => W.heap.size ≤ k ∧ k < w4.heap.size) rfl rfl N0.out (Kd.N_F HDN.out) (fun k hk => ⟨by have := HLE.out; omega, by have := GE0.out; show ¬ some k = some g0; intro e; injection e; omega⟩) (fun k hk => by have := blk_lt HD6.out; omega) HL.out HL.out.size (by decide) ?_
        intro v3 u3 hN hB hg hat
        have ne6 : some b6 ≠ (Value.slice (some ⟨g0, 0, none⟩) 0 0).ownBlock := by have := GE0.out; show ¬ some b6 = some g0; intro e; injection e; omega
        have N3 := Aside0.mk hN
        have HD6 := Aside0.mk ((hg.block b6 (blk_lt HD6.out) ne6).trans HD6.out)
        have HL := Aside0.mk hB
        have LT3 : Aside0 (u2.heap.size ≤ u3.heap.size) := ⟨hg.size⟩
        have NE : Aside0 (some g8 ≠ v3.ownBlock) := ⟨by rcases hat with h | ⟨b, h, hb⟩; (· rw [h]; have := NE0.out; show ¬ some g8 = some g0; intro e; injection e; omega); (· rw [h]; have := L8.out; intro e; injection e; omega)⟩
        have F8 := Aside0.mk (Kd.F_grown F8.out hg (fun k hk => by have h1 := NE0.out; have h2 := GE0.out; show ¬ some k = some g0; intro e; injection e with e; rcases hk with hk | hk <;> omega))
        clear hN hB hg ne6 hat
        refine hK _ _ ⟨⟨_, HL.out⟩, rfl⟩ ?_
        clear hK K
        refine hall1 (i := 9) (by kernel_rfl) (by rfl) (fun K hK => ?_)
        refine Kd.N_append_rows_step kTok w4.heap.size (by rfl) (.tmp 26) (.tmp 31) 23 50 (.agg #[.string ⟨#[]⟩, .int .i64 0, .int .i64 0, .int .i64 0, .slice none 0 0, .slice none 0 0]) 88 rfl Tryd.underlying23 (by kernel_rfl) rfl (by decide) (by decide) v3 madeT [tokA] (some ⟨g8, 0, none⟩) 1 1 (fun k => k ≠ b6) (fun q => q = g8 ∨ ((W.heap.size ≤ q ∧ q ≠ gR) ∧ q < w4.heap.size)) rfl rfl N3.out F8.out (fun k hk => ⟨by have := HLE.out; have := GE8.out; rcases hk with hk | hk <;> omega, by rcases hk with hk | hk; (· rw [hk]; exact NE.out); (· intro e; have := Kd.N_base N3.out k e.symm; omega)⟩) (fun k hk => by have := blk_lt HD6.out; omega) HL.out HL.out.size (by decide) ?_
        intro v9 u4 hN hB hg hat
        have N9 := Aside0.mk hN
        have HD6 := Aside0.mk ((hg.block b6 (blk_lt HD6.out) (fun e => (N3.out.1 b6 e.symm) rfl)).trans HD6.out)
        have HL := Aside0.mk hB
        clear hN hB hg hat
        refine hK _ _ ⟨⟨_, HL.out⟩, rfl⟩ ?_
        clear hK K
        ((refine takeQ (i := 10) (by rfl) (by kernel_rfl) (by kernel_rfl) (by kernel_rfl) ?_ ?_ ?_); (focus exact fun _ _ _ _ h => h); (focus exact ⟨⟨_, HL.out⟩, rfl⟩); intro K hK; go_simp; (with_reducible refine hK _ ?_); clear hK K)
        refine hall1 (i := 11) (by kernel_rfl) (by rfl) (fun K hK => ?_)
        obtain ⟨A9, c9, hv9⟩ := Kd.N_slice N9.out
        subst hv9
        have y0 : World.cell? u4 ⟨b6, 0, none⟩ = some (.slice (some ⟨gR, 0, none⟩) 4 cap) := (blk_cell HD6.out 0).trans rfl
        have z0 := blk_frozen HD6.out 0
        go_simp
        have HE := Aside0.mk (told_end HL.out HLE.out.1 N9.out HD6.out)
        refine hK _ _ ⟨⟨_, HE.out.elim fun _ h => h.elim fun _ h => h.2.2.2⟩, rfl⟩ ?_
        clear hK K y0 z0
        refine wpAnyH_done (by kernel_rfl) ?_ _
        go_wp2
        go_meet
        case rel => exact HE
    · go_simp
      obtain ⟨u1, hv⟩ : ∃ x, wd.alloc (.cells #[.string tokA.f0, .int .i64 tokA.f1, .int .i64 tokA.f2, .int .i64 tokA.f3.f0, .slice A4 tokA.f3.f1.length c4, .slice A5 tokA.f3.f2.length c5] 50) = x := ⟨_, rfl⟩
      rw [hv]
      obtain ⟨g8, hg⟩ : ∃ x, wd.heap.size = x := ⟨_, rfl⟩
      rw [hg]
      have ST : Aside0 (Below wd.heap.size wd u1) := ⟨hv ▸ below1 _ _⟩
      have BK : Aside0 (u1.heap[g8]? = some (.cells #[.string tokA.f0, .int .i64 tokA.f1, .int .i64 tokA.f2, .int .i64 tokA.f3.f0, .slice A4 tokA.f3.f1.length c4, .slice A5 tokA.f3.f2.length c5] 50 (0, 0))) := ⟨by rw [← hv, ← hg]; exact blk_new _ _⟩
      have GE8 : Aside0 (b6 < g8 ∧ w4.heap.size ≤ g8) := ⟨by have h1 := blk_lt HD6.out; have h2 := HLE.out; omega⟩
      have GS : Aside0 (wd.heap.size = g8) := ⟨hg⟩
      clear hv hg
      have HDN := Aside0.mk (Kd.N_below HDN.out ST.out)
      have HDK := Aside0.mk (Kd.FK_below HDK.out ST.out)
      have HD6 := Aside0.mk (blk_below HD6.out ST.out)
      have HL := Aside0.mk (join_below HL.out ST.out)
      have F8 : Aside0 (Kd.F kTok u1 (fun q => q = g8 ∨ ((W.heap.size ≤ q ∧ q ≠ gR) ∧ q < w4.heap.size)) (some ⟨g8, 0, none⟩) 1 [tokA]) := ⟨f_one BK.out rfl HDK.out⟩
      have L8 : Aside0 (g8 < u1.heap.size) := ⟨blk_lt BK.out⟩
      clear BK ST GS
      refine hK _ _ ⟨⟨_, HL.out⟩, rfl⟩ ?_
      clear hK K
      refine hall1 (i := 0) (by kernel_rfl) (by rfl) (fun K hK => ?_)
      go_simp
      obtain ⟨u2, hv⟩ : ∃ x, u1.alloc (.cells #[] 50) = x := ⟨_, rfl⟩
      rw [hv]
      obtain ⟨g0, hg⟩ : ∃ x, u1.heap.size = x := ⟨_, rfl⟩
      rw [hg]
      have ST : Aside0 (Below u1.heap.size u1 u2) := ⟨hv ▸ below1 _ _⟩
      have BK : Aside0 (u2.heap[g0]? = some (.cells #[] 50 (0, 0))) := ⟨by rw [← hv, ← hg]; exact blk_new _ _⟩
      have GE0 : Aside0 (b6 < g0 ∧ w4.heap.size ≤ g0) := ⟨by have h1 := blk_lt HD6.out; have h2 := HLE.out; omega⟩
      have GS : Aside0 (u1.heap.size = g0) := ⟨hg⟩
      clear hv hg
      have HDN := Aside0.mk (Kd.N_below HDN.out ST.out)
      have HDK := Aside0.mk (Kd.FK_below HDK.out ST.out)
      have HD6 := Aside0.mk (blk_below HD6.out ST.out)
      have HL := Aside0.mk (join_below HL.out ST.out)
      have F8 := Aside0.mk (Kd.F_below F8.out ST.out)
      have NE0 : Aside0 (g8 ≠ g0) := ⟨by have h1 := L8.out; have h2 := GS.out; omega⟩
      have L8 := Aside0.mk (Nat.lt_of_lt_of_le L8.out ST.out.size)
      have N0 : Aside0 (Kd.N kTok 50 u2 w4.heap.size (fun k => k ≠ b6) (.slice (some ⟨g0, 0, none⟩) 0 0) []) := ⟨n_empty kTok _ BK.out rfl GE0.out.2 (by have := GE0.out.1; omega)⟩
      have L0 : Aside0 (g0 < u2.heap.size) := ⟨blk_lt BK.out⟩
      clear BK ST GS
      refine hK _ _ ⟨⟨_, HL.out⟩, rfl⟩ ?_
      clear hK K
      refine hall1 (i := 3) (by kernel_rfl) (by rfl) (fun K hK => ?_)
      refine Kd.N_append_rows_step kTok w4.heap.size (by rfl) (.tmp 23) (.tmp 25) 23 50 (.agg #[.string ⟨#[]⟩, .int .i64 0, .int .i64 0, .int .i64 0, .slice none 0 0, .slice none 0 0]) 88 rfl Tryd.underlying23 (by kernel_rfl) rfl (by decide) (by decide) (.slice (some ⟨g0, 0, none⟩) 0 0) [] madeT (some ⟨gR, 0, none⟩) 4 cap (fun k => k ≠ b6) (fun k => W.heap.size ≤ k ∧ k < w4.heap.size) rfl rfl N0.out (Kd.N_F HDN.out) (fun k hk => ⟨by have := HLE.out; omega, by have := GE0.out; show ¬ some k = some g0; intro e; injection e; omega⟩) (fun k hk => by have := blk_lt HD6.out; omega) HL.out HL.out.size (by decide) ?_
      intro v3 u3 hN hB hg hat
      have ne6 : some b6 ≠ (Value.slice (some ⟨g0, 0, none⟩) 0 0).ownBlock := by have := GE0.out; show ¬ some b6 = some g0; intro e; injection e; omega
      have N3 := Aside0.mk hN
      have HD6 := Aside0.mk ((hg.block b6 (blk_lt HD6.out) ne6).trans HD6.out)
      have HL := Aside0.mk hB
      have LT3 : Aside0 (u2.heap.size ≤ u3.heap.size) := ⟨hg.size⟩
      have NE : Aside0 (some g8 ≠ v3.ownBlock) := ⟨by rcases hat with h | ⟨b, h, hb⟩; (· rw [h]; have := NE0.out; show ¬ some g8 = some g0; intro e; injection e; omega); (· rw [h]; have := L8.out; intro e; injection e; omega)⟩
      have F8 := Aside0.mk (Kd.F_grown F8.out hg (fun k hk => by have h1 := NE0.out; have h2 := GE0.out; show ¬ some k = some g0; intro e; injection e with e; rcases hk with hk | hk <;> omega))
      clear hN hB hg ne6 hat
      refine hK _ _ ⟨⟨_, HL.out⟩, rfl⟩ ?_
      clear hK K
      refine hall1 (i := 9) (by kernel_rfl) (by rfl) (fun K hK => ?_)
      refine Kd.N_append_rows_step kTok w4.heap.size (by rfl) (.tmp 26) (.tmp 31) 23 50 (.agg #[.string ⟨#[]⟩, .int .i64 0, .int .i64 0, .int .i64 0, .slice none 0 0, .slice none 0 0]) 88 rfl Tryd.underlying23 (by kernel_rfl) rfl (by decide) (by decide) v3 madeT [tokA] (some ⟨g8, 0, none⟩) 1 1 (fun k => k ≠ b6) (fun q => q = g8 ∨ ((W.heap.size ≤ q ∧ q ≠ gR) ∧ q < w4.heap.size)) rfl rfl N3.out F8.out (fun k hk => ⟨by have := HLE.out; have := GE8.out; rcases hk with hk | hk <;> omega, by rcases hk with hk | hk; (· rw [hk]; exact NE.out); (· intro e; have := Kd.N_base N3.out k e.symm; omega)⟩) (fun k hk => by have := blk_lt HD6.out; omega) HL.out HL.out.size (by decide) ?_
      intro v9 u4 hN hB hg hat
      have N9 := Aside0.mk hN
      have HD6 := Aside0.mk ((hg.block b6 (blk_lt HD6.out) (fun e => (N3.out.1 b6 e.symm) rfl)).trans HD6.out)
      have HL := Aside0.mk hB
      clear hN hB hg hat
      refine hK _ _ ⟨⟨_, HL.out⟩, rfl⟩ ?_
      clear hK K
      ((refine takeQ (i := 10) (by rfl) (by kernel_rfl) (by kernel_rfl) (by kernel_rfl) ?_ ?_ ?_); (focus exact fun _ _ _ _ h => h); (focus exact ⟨⟨_, HL.out⟩, rfl⟩); intro K hK; go_simp; (with_reducible refine hK _ ?_); clear hK K)
      refine hall1 (i := 11) (by kernel_rfl) (by rfl) (fun K hK => ?_)
      obtain ⟨A9, c9, hv9⟩ := Kd.N_slice N9.out
      subst hv9
      have y0 : World.cell? u4 ⟨b6, 0, none⟩ = some (.slice (some ⟨gR, 0, none⟩) 4 cap) := (blk_cell HD6.out 0).trans rfl
      have z0 := blk_frozen HD6.out 0
      go_simp
      have HE := Aside0.mk (told_end HL.out HLE.out.1 N9.out HD6.out)
      refine hK _ _ ⟨⟨_, HE.out.elim fun _ h => h.elim fun _ h => h.2.2.2⟩, rfl⟩ ?_
      clear hK K y0 z0
      refine wpAnyH_done (by kernel_rfl) ?_ _
      go_wp2
      go_meet
      case rel => exact HE
  case rest =>
    obtain ⟨A, c, hc, h6, hC5, hB5⟩ := hcut.out
    have HC5 := Aside0.mk hC5
    have HT1 := Aside0.mk (blk_below HT4.out hB5)
    have HT6 := Aside0.mk h6
    have HOW := Aside0.mk (Kd.C_below HO.out (join_below HB4.out hB5))
    have HCR := Aside0.mk (Kd.C_below (Kd.N_reads' HN4.out).2.2 hB5)
    have HVV := Aside0.mk (join_below HB4.out hB5)
    have a0 := (blk_cell HT1.out 0).trans rfl
    have a1 := (blk_cell HT1.out 1).trans rfl
    have d0 := (blk_cell h6 0).trans rfl
    have d1 := (blk_cell h6 1).trans rfl
    clear hcut hC5 hB5 h6 HN4 HN5 HT5 HB45 HLE HG4 HGR HB4 HO H0
    go_wp2_with fail
    refine (H2.out A c none 0 _ HC5.out rul_nil HOW.out).mono ?_
    rintro e v0 ⟨he, hb⟩
    subst he
    have HT1 := Aside0.mk (blk_below HT1.out hb)
    have HT6 := Aside0.mk (blk_below HT6.out hb)
    have HOW := Aside0.mk (Kd.C_below HOW.out hb)
    have HC5 := Aside0.mk (Kd.C_below HC5.out hb)
    have HCR := Aside0.mk (Kd.C_below HCR.out hb)
    have HVV := Aside0.mk (join_below HVV.out hb)
    clear a0 a1 d0 d1 hb
    have a0 := (blk_cell HT1.out 0).trans rfl
    have a1 := (blk_cell HT1.out 1).trans rfl
    have d0 := (blk_cell HT6.out 0).trans rfl
    have d1 := (blk_cell HT6.out 1).trans rfl
    go_wp2_with fail
    refine (gmay_any madeT [] 0 0 H1.out (some ⟨gR, 0, none⟩) cap none 0 _ HCR.out rul_nil HOW.out).mono ?_
    rintro e v1 ⟨he, hb⟩
    rw [show ((0 : Int) == 0) = true from rfl] at he
    subst he
    have HT1 := Aside0.mk (blk_below HT1.out hb)
    have HT6 := Aside0.mk (blk_below HT6.out hb)
    have HOW := Aside0.mk (Kd.C_below HOW.out hb)
    have HC5 := Aside0.mk (Kd.C_below HC5.out hb)
    have HCR := Aside0.mk (Kd.C_below HCR.out hb)
    have HVV := Aside0.mk (join_below HVV.out hb)
    clear a0 a1 d0 d1 hb
    have a0 := (blk_cell HT1.out 0).trans rfl
    have a1 := (blk_cell HT1.out 1).trans rfl
    have d0 := (blk_cell HT6.out 0).trans rfl
    have d1 := (blk_cell HT6.out 1).trans rfl
    go_wp2_with fail
    refine (name_any ⟨#[97, 98, 49]⟩ (by decide) _ HOW.out).mono ?_
    rintro e v2 ⟨he, hb⟩
    rw [show nameS ⟨#[97, 98, 49]⟩ = true from by kernel_rfl] at he
    subst he
    have HT1 := Aside0.mk (blk_below HT1.out hb)
    have HT6 := Aside0.mk (blk_below HT6.out hb)
    have HOW := Aside0.mk (Kd.C_below HOW.out hb)
    have HC5 := Aside0.mk (Kd.C_below HC5.out hb)
    have HCR := Aside0.mk (Kd.C_below HCR.out hb)
    have HVV := Aside0.mk (join_below HVV.out hb)
    clear a0 a1 d0 d1 hb
    have a0 := (blk_cell HT1.out 0).trans rfl
    have a1 := (blk_cell HT1.out 1).trans rfl
    have d0 := (blk_cell HT6.out 0).trans rfl
    have d1 := (blk_cell HT6.out 1).trans rfl
    go_wp2_with fail
    refine (name_any ⟨#[116, 111, 107]⟩ (by decide) _ HOW.out).mono ?_
    rintro e v3 ⟨he, hb⟩
    rw [show nameS ⟨#[116, 111, 107]⟩ = false from by kernel_rfl] at he
    subst he
    have HT1 := Aside0.mk (blk_below HT1.out hb)
    have HT6 := Aside0.mk (blk_below HT6.out hb)
    have HOW := Aside0.mk (Kd.C_below HOW.out hb)
    have HC5 := Aside0.mk (Kd.C_below HC5.out hb)
    have HCR := Aside0.mk (Kd.C_below HCR.out hb)
    have HVV := Aside0.mk (join_below HVV.out hb)
    clear a0 a1 d0 d1 hb
    have a0 := (blk_cell HT1.out 0).trans rfl
    have a1 := (blk_cell HT1.out 1).trans rfl
    have d0 := (blk_cell HT6.out 0).trans rfl
    have d1 := (blk_cell HT6.out 1).trans rfl
    go_wp2_with fail
    refine (name_any ⟨#[49, 97]⟩ (by decide) _ HOW.out).mono ?_
    rintro e v4 ⟨he, hb⟩
    rw [show nameS ⟨#[49, 97]⟩ = false from by kernel_rfl] at he
    subst he
    have HT1 := Aside0.mk (blk_below HT1.out hb)
    have HT6 := Aside0.mk (blk_below HT6.out hb)
    have HOW := Aside0.mk (Kd.C_below HOW.out hb)
    have HC5 := Aside0.mk (Kd.C_below HC5.out hb)
    have HCR := Aside0.mk (Kd.C_below HCR.out hb)
    have HVV := Aside0.mk (join_below HVV.out hb)
    clear a0 a1 d0 d1 hb
    have a0 := (blk_cell HT1.out 0).trans rfl
    have a1 := (blk_cell HT1.out 1).trans rfl
    have d0 := (blk_cell HT6.out 0).trans rfl
    have d1 := (blk_cell HT6.out 1).trans rfl
    go_wp2_with fail
    refine (find_any madeT (some ⟨gR, 0, none⟩) none cap 0 0 ⟨#[98]⟩ _ HCR.out).mono ?_
    rintro e v5 ⟨he, hb⟩
    rw [show findS madeT ⟨#[98]⟩ 0 = 1 from by kernel_rfl] at he
    subst he
    have HT1 := Aside0.mk (blk_below HT1.out hb)
    have HT6 := Aside0.mk (blk_below HT6.out hb)
    have HOW := Aside0.mk (Kd.C_below HOW.out hb)
    have HC5 := Aside0.mk (Kd.C_below HC5.out hb)
    have HCR := Aside0.mk (Kd.C_below HCR.out hb)
    have HVV := Aside0.mk (join_below HVV.out hb)
    clear a0 a1 d0 d1 hb
    have a0 := (blk_cell HT1.out 0).trans rfl
    have a1 := (blk_cell HT1.out 1).trans rfl
    have d0 := (blk_cell HT6.out 0).trans rfl
    have d1 := (blk_cell HT6.out 1).trans rfl
    go_wp2_with fail
    refine (find_any madeT (some ⟨gR, 0, none⟩) none cap 0 0 ⟨#[122, 122]⟩ _ HCR.out).mono ?_
    rintro e v6 ⟨he, hb⟩
    rw [show findS madeT ⟨#[122, 122]⟩ 0 = -1 from by kernel_rfl] at he
    subst he
    have HT1 := Aside0.mk (blk_below HT1.out hb)
    have HT6 := Aside0.mk (blk_below HT6.out hb)
    have HOW := Aside0.mk (Kd.C_below HOW.out hb)
    have HC5 := Aside0.mk (Kd.C_below HC5.out hb)
    have HCR := Aside0.mk (Kd.C_below HCR.out hb)
    have HVV := Aside0.mk (join_below HVV.out hb)
    clear a0 a1 d0 d1 hb
    have a0 := (blk_cell HT1.out 0).trans rfl
    have a1 := (blk_cell HT1.out 1).trans rfl
    have d0 := (blk_cell HT6.out 0).trans rfl
    have d1 := (blk_cell HT6.out 1).trans rfl
    go_wp2_with fail
    refine (emp_any ⟨4, [], [], []⟩ _ _ _ (Below.refl _ _) (k37_mk _ ⟨4, [], [], []⟩ (Nat.zero_le 0) (tx_nil (A := none)) (Nat.zero_le 0) (tx_nil (A := none)) (Nat.zero_le 0) (pt_nil (A := none)))).mono ?_
    rintro e v7 ⟨he, hb⟩
    rw [show empP ⟨4, [], [], []⟩ = true from by kernel_rfl] at he
    subst he
    have HT1 := Aside0.mk (blk_below HT1.out hb)
    have HT6 := Aside0.mk (blk_below HT6.out hb)
    have HOW := Aside0.mk (Kd.C_below HOW.out hb)
    have HC5 := Aside0.mk (Kd.C_below HC5.out hb)
    have HCR := Aside0.mk (Kd.C_below HCR.out hb)
    have HVV := Aside0.mk (join_below HVV.out hb)
    clear a0 a1 d0 d1 hb
    have a0 := (blk_cell HT1.out 0).trans rfl
    have a1 := (blk_cell HT1.out 1).trans rfl
    have d0 := (blk_cell HT6.out 0).trans rfl
    have d1 := (blk_cell HT6.out 1).trans rfl
    go_wp2_with fail
    refine (same_any madeT madeT [] [] (some ⟨gR, 0, none⟩) none (some ⟨gR, 0, none⟩) none cap 0 cap 0 _ HCR.out rul_nil HCR.out rul_nil).mono ?_
    rintro e v8 ⟨he, hb⟩
    rw [show sameS madeT [] madeT [] = true from by kernel_rfl] at he
    subst he
    have HT1 := Aside0.mk (blk_below HT1.out hb)
    have HT6 := Aside0.mk (blk_below HT6.out hb)
    have HOW := Aside0.mk (Kd.C_below HOW.out hb)
    have HC5 := Aside0.mk (Kd.C_below HC5.out hb)
    have HCR := Aside0.mk (Kd.C_below HCR.out hb)
    have HVV := Aside0.mk (join_below HVV.out hb)
    clear a0 a1 d0 d1 hb
    have a0 := (blk_cell HT1.out 0).trans rfl
    have a1 := (blk_cell HT1.out 1).trans rfl
    have d0 := (blk_cell HT6.out 0).trans rfl
    have d1 := (blk_cell HT6.out 1).trans rfl
    go_wp2_with fail
    refine (same_any madeT twiceT [] [] (some ⟨gR, 0, none⟩) none A none cap 0 c 0 _ HCR.out rul_nil HC5.out rul_nil).mono ?_
    rintro e v9 ⟨he, hb⟩
    rw [show sameS madeT [] twiceT [] = false from by kernel_rfl] at he
    subst he
    have HT1 := Aside0.mk (blk_below HT1.out hb)
    have HT6 := Aside0.mk (blk_below HT6.out hb)
    have HOW := Aside0.mk (Kd.C_below HOW.out hb)
    have HC5 := Aside0.mk (Kd.C_below HC5.out hb)
    have HCR := Aside0.mk (Kd.C_below HCR.out hb)
    have HVV := Aside0.mk (join_below HVV.out hb)
    clear a0 a1 d0 d1 hb
    have a0 := (blk_cell HT1.out 0).trans rfl
    have a1 := (blk_cell HT1.out 1).trans rfl
    have d0 := (blk_cell HT6.out 0).trans rfl
    have d1 := (blk_cell HT6.out 1).trans rfl
    go_wp2
    go_ret
    exact ⟨rfl, HVV.out⟩
end Go.Proofs.YthdfmbmbjpmlaaaDoor.Rn
/- gobolaw11.GramLimits: tokens. -/
set_option linter.unusedVariables false
set_option linter.unusedSimpArgs false
namespace Go.Proofs.YthdfmbmbjpmlaaaDoor.Rn
open Go Go.RowKit Go.Proofs.YthdfmbmbjpmlaaaDoorW.PrintWords Go.Proofs.YthdfmbmbjpmlaaaDoorW.PrintLast Go.Proofs.YthdfmbmbjpmlaaaDoorW.PrintMore
def limB : ByteArray := ⟨#[48, 49, 50, 51, 52, 53, 54, 55, 56, 57, 97, 98, 99, 100, 101, 102, 103, 104, 105, 106]⟩
def limX (i : Nat) : Tok := ⟨⟨#[116]⟩ ++ limB.extract i (i + 1), 0, 0, oneT 120⟩
def limT : Nat → List Tok
  | 0 => madeT
  | m + 1 => limT m ++ [limX (4 + m)]
theorem limT_len : ∀ m, (limT m).length = 4 + m
  | 0 => rfl
  | m + 1 => by rw [limT, List.length_append, limT_len m]; simp; omega
theorem lim_slice (i : Nat) (h : i < 20) (w : World) : (Instr.slice 9 (.string ⟨#[48, 49, 50, 51, 52, 53, 54, 55, 56, 57, 97, 98, 99, 100, 101, 102, 103, 104, 105, 106]⟩) (some (.int .i64 (i : Int))) (some (.int .i64 ((i : Int) + 1))) none).run Tryd.prog w = .ok (.string (limB.extract i (i + 1))) w := by
  have h1 := run_slice_string (P := Tryd.prog) w 9 limB .i64 .i64 (i : Int) ((i : Int) + 1) Tryd.underlying9 (by omega) (by omega) (show (i : Int) + 1 ≤ ((20 : Nat) : Int) by omega)
  have e1 : (i : Int).toNat = i := by omega
  have e2 : ((i : Int) + 1).toNat = i + 1 := by omega
  rw [e1, e2] at h1
  exact h1
/-- the tokens so far, in their grammar's cell -/
def LimAt (W w : World) (b6 b7 : Nat) (m : Nat) : Prop := ∃ A c, w.heap[b6]? = some (.cells #[.slice A (limT m).length c, .slice none 0 0] 26 (0, 0)) ∧ Kd.N kTok 50 w W.heap.size (fun q => W.heap.size ≤ q ∧ q ≠ b6) (.slice A (limT m).length c) (limT m) ∧ Below W.heap.size W w
theorem LimAt.below {W w w' : World} {b6 b7 m : Nat} (h : LimAt W w b6 b7 m) (hb : Below w.heap.size w w') : LimAt W w' b6 b7 m := by
  obtain ⟨A, c, h1, h2, h3⟩ := h
  exact ⟨A, c, blk_below h1 hb, Kd.N_below h2 hb, join_below h3 hb⟩
theorem lim_put {W w : World} {b6 b7 m : Nat} {v u : Value} (hb : Below W.heap.size W w) (h6 : W.heap.size ≤ b6) (hN : Kd.N kTok 50 w W.heap.size (fun q => W.heap.size ≤ q ∧ q ≠ b6) v (limT m)) (hblk : w.heap[b6]? = some (.cells #[u, .slice none 0 0] 26 (0, 0))) :
    LimAt W (w.setCell ⟨b6, 0, none⟩ v) b6 b7 m := by
  have hN2 := Kd.N_far hN (p := ⟨b6, 0, none⟩) (fun k hk => hk.2) v
  obtain ⟨A, c, rfl⟩ := Kd.N_slice hN
  exact ⟨A, c, blk_put hblk 0 _ rfl, hN2, hb.setCell h6 _⟩
set_option maxHeartbeats 8000000 in
set_option maxRecDepth 100000 in
theorem limits_0 (h0 : ChkC [] [] 6 0) (h1 : ChkC madeT [] 0 0) (h2 : ChkC twiceT [] 4 4) (hL : ∀ k : Nat, k < 4 → ChkC (limT (10 + k)) [] (if k < 3 then 0 else 6) 0)
    (a n : Int) (k : Nat) (hk : wrap64 ((IntKind.u64.wrap n).tmod 4) = k) (hk4 : k < 4) (hj : wrap64 ((IntKind.u64.wrap a).tmod 3) = 0) (W : World) (hO : OwnAt W) :
    Calls Tryd.prog 5 #[.int .i64 a, .int .i64 n] W fun e W' => e = .returned (.bool true) ∧ Below W.heap.size W W' := by
  have HO := Aside0.mk hO
  have HT := Aside0.mk (And.intro h0 (And.intro h1 h2))
  have HLim := Aside0.mk hL
  clear hO h0 h1 h2 hL
  go_enter Tryd.func5, Tryd.ntmps5
  go_wp2_with fail
  refine (make_nil _).mono ?_
  rintro e w1 ⟨v, rfl, hN, hb⟩
  obtain ⟨gR, cap, rfl, hg, hg2, X, hX⟩ := Kd.N_form hN (show 0 < madeT.length from by decide)
  have hl4 : madeT.length = 4 := rfl
  rw [hl4] at hN ⊢
  have HB1 := Aside0.mk hb
  have HN := Aside0.mk hN
  have HgR := Aside0.mk hg2
  clear hN hb hg hg2 hX hl4
  go_wp2
  obtain ⟨b6, hb6⟩ : ∃ x, w1.heap.size = x := ⟨_, rfl⟩
  obtain ⟨w2, hw2⟩ : ∃ x, (w1.alloc (.cells #[.slice (some ⟨gR, 0, none⟩) 4 cap, .slice none 0 0] 26)).alloc (.cells #[.int .i64 0, .bool true, .slice none 0 0] 32) = x := ⟨_, rfl⟩
  have HST : Aside0 (LimAt W w2 b6 (b6 + 1) 0) := ⟨by
    have hNb := Kd.N_bound HN.out
    have hB12 : Below w1.heap.size w1 w2 := hw2 ▸ below_alloc (below1 _ _) _
    refine ⟨_, _, ?_, Kd.N_mono (Kd.N_below hNb hB12) (fun q hq => ⟨hq.1, by have := hq.2; omega⟩), join_below HB1.out hB12⟩
    rw [← hw2, ← hb6]
    exact blk_alloc (blk_new _ _) _⟩
  have HLE : Aside0 (W.heap.size ≤ b6) := ⟨by have := HB1.out.size; omega⟩
  rw [hw2, hb6]
  clear hb6 hw2 HN HgR HB1 hk hj
  go_loopw [8] (fun i w' => ∃ m : Nat, i = .int .i64 ((4 + m : Nat) : Int) ∧ m ≤ 10 + k ∧ Aside0 (LimAt W w' b6 (b6 + 1) m)) (fun i _ => 14 + k - (intOf i).toNat)
  case atStart => exact ⟨0, rfl, Nat.zero_le _, HST⟩
  case round =>
    obtain ⟨m, rfl, hm, HS⟩ := hrel
    obtain ⟨A, c, h6, hN, hB⟩ := HS.out
    have HN := Aside0.mk hN
    have H6 := Aside0.mk h6
    have HB := Aside0.mk hB
    clear HS hN hB
    by_cases hlt : m < 10 + k
    · obtain ⟨i, hi⟩ : ∃ i, 4 + m = i := ⟨_, rfl⟩
      have HI : Aside0 (4 + m = i) := ⟨hi⟩
      have hi1 : i < 20 := by omega
      have hw1 : IntKind.i64.wrap ((i : Int) + 1) = ((i + 1 : Nat) : Int) := by rw [IntKind.wrap_i64]; omega
      have hc1 := lim_slice i hi1
      have hc2 : ¬ 9223372036854775807 < 1 + (min (i + 1) limB.size - i) := by omega
      have hlt' : decide ((i : Int) < 14 + (k : Int)) = true := by simp; omega
      have hlm : (limT m).length = i := by rw [limT_len, hi]
      have HLM := Aside0.mk hlm
      have HLT := Aside0.mk hlt
      rw [hi]
      clear hi hlm hm
      go_upto_region 9 with (fail)
      obtain ⟨wd, hwd⟩ : ∃ x, wr.drew = x := ⟨_, rfl⟩
      have HL : Aside0 (Below wr.heap.size wr wd) := ⟨hwd ▸ below_drew1 (Below.refl _ _)⟩
      have HLT6 : Aside0 (b6 < wr.heap.size) := ⟨blk_lt h6⟩
      clear h6 hlt'
      refine wp_region_held (S := fun w' => True) (by kernel_rfl) ?_
      change wpAnyH _ _ _ _ _ _ _ _ (World.drew _)
      rw [hwd]
      clear hwd
      ((refine takeQ (i := 0) (by rfl) (by kernel_rfl) (by kernel_rfl) (by kernel_rfl) ?_ ?_ ?_); (focus exact fun _ _ _ _ h => h); (focus exact trivial); intro K hK; go_simp; (with_reducible refine hK _ ?_); clear hK K)
      ((refine takeQ (i := 2) (by rfl) (by kernel_rfl) (by kernel_rfl) (by kernel_rfl) ?_ ?_ ?_); (focus exact fun _ _ _ _ h => h); (focus exact trivial); intro K hK; go_simp; (with_reducible refine hK _ ?_); clear hK K)
      ((refine takeQ (i := 3) (by rfl) (by kernel_rfl) (by kernel_rfl) (by kernel_rfl) ?_ ?_ ?_); (focus exact fun _ _ _ _ h => h); (focus exact trivial); intro K hK; go_simp; (with_reducible refine hK _ ?_); clear hK K)
      ((refine takeQ (i := 4) (by rfl) (by kernel_rfl) (by kernel_rfl) (by kernel_rfl) ?_ ?_ ?_); (focus exact fun _ _ _ _ h => h); (focus exact trivial); intro K hK; go_simp; (with_reducible refine hK _ ?_); clear hK K)
      ((refine takeQ (i := 5) (by rfl) (by kernel_rfl) (by kernel_rfl) (by kernel_rfl) ?_ ?_ ?_); (focus exact fun _ _ _ _ h => h); (focus exact trivial); intro K hK; go_simp; (with_reducible refine hK _ ?_); clear hK K)
      ((refine takeQ (i := 6) (by rfl) (by kernel_rfl) (by kernel_rfl) (by kernel_rfl) ?_ ?_ ?_); (focus exact fun _ _ _ _ h => h); (focus exact trivial); intro K hK; go_simp; (with_reducible refine hK _ ?_); clear hK K)
      clear hw1 hc1 hc2
      have H6 := Aside0.mk (blk_below H6.out HL.out)
      have HN := Aside0.mk (Kd.N_below (Kd.N_bound HN.out) HL.out)
      have HB := Aside0.mk (join_below HB.out HL.out)
      refine hall2 (i := 1) (j := 7) (by kernel_rfl) (by rfl) (by rfl) (fun K hK => ?_) (fun K hK => ?_)
      · have y0 : World.cell? wd ⟨b6, 0, none⟩ = some (.slice A (limT m).length c) := (blk_cell H6.out 0).trans rfl
        go_simp
        refine hK _ _ trivial ?_
        clear hK K y0
        refine hall1 (i := 7) (by kernel_rfl) (by rfl) (fun K hK => ?_)
        go_simp
        refine (one_any 120 _).mono ?_
        rintro e u2 ⟨a0, c0, E0, e0, X0, rfl, f1, f2, fX, f3, f4, f5, hb⟩
        have F0 := Aside0.mk (And.intro f2 (And.intro f3 f1))
        have GA : Aside0 (wr.heap.size ≤ a0) := ⟨by have := HL.out.size; omega⟩
        have H6 := Aside0.mk (blk_below H6.out hb)
        have HN := Aside0.mk (Kd.N_below HN.out hb)
        have HB := Aside0.mk (join_below HB.out hb)
        have HL := Aside0.mk (join_below HL.out hb)
        have GB : Aside0 (a0 < u2.heap.size) := ⟨f5⟩
        clear f1 f2 f3 f4 f5 fX hb
        refine hK _ _ trivial ?_
        clear hK K
        ((refine takeQ (i := 8) (by rfl) (by kernel_rfl) (by kernel_rfl) (by kernel_rfl) ?_ ?_ ?_); (focus exact fun _ _ _ _ h => h); (focus exact trivial); intro K hK; go_simp; (with_reducible refine hK _ ?_); clear hK K)
        refine hall1 (i := 9) (by kernel_rfl) (by rfl) (fun K hK => ?_)
        go_simp
        obtain ⟨u3, hv⟩ : ∃ x, u2.alloc (.cells #[.string (⟨#[116]⟩ ++ limB.extract i (i + 1)), .int .i64 0, .int .i64 0, .int .i64 2, .slice (some ⟨a0, 0, none⟩) 1 c0, .slice E0 0 e0] 50) = x := ⟨_, rfl⟩
        obtain ⟨g9, hg⟩ : ∃ x, u2.heap.size = x := ⟨_, rfl⟩
        refine hK _ _ trivial ?_
        clear hK K
        show wpAnyH _ _ _ _ _ _ _ _ (World.alloc _ (.cells #[.string (⟨#[116]⟩ ++ limB.extract i (i + 1)), .int .i64 0, .int .i64 0, .int .i64 2, .slice (some ⟨a0, 0, none⟩) 1 c0, .slice E0 0 e0] 50))
        rw [hv, hg]
        have ST : Aside0 (Below u2.heap.size u2 u3) := ⟨hv ▸ below1 _ _⟩
        have BK : Aside0 (u3.heap[g9]? = some (.cells #[.string (⟨#[116]⟩ ++ limB.extract i (i + 1)), .int .i64 0, .int .i64 0, .int .i64 2, .slice (some ⟨a0, 0, none⟩) 1 c0, .slice E0 0 e0] 50 (0, 0))) := ⟨by rw [← hv, ← hg]; exact blk_new _ _⟩
        have GC : Aside0 (wr.heap.size ≤ g9) := ⟨by have := HL.out.size; omega⟩
        clear hv hg
        have FK : Aside0 (Kd.FK kTok u3 (fun q => q = a0) (limX i) [.string (⟨#[116]⟩ ++ limB.extract i (i + 1)), .int .i64 0, .int .i64 0, .int .i64 2, .slice (some ⟨a0, 0, none⟩) 1 c0, .slice E0 0 e0]) := ⟨k50_mkF u3 (fun q => q = a0) (limX i) (show 1 ≤ c0 from F0.out.2.2) (Kd.F_below F0.out.1 ST.out) (show 0 ≤ e0 from Nat.zero_le _) (re_noneF (fun _ => re_none F0.out.2.1))⟩
        have F9 : Aside0 (Kd.F kTok u3 (fun q => q = g9 ∨ q = a0) (some ⟨g9, 0, none⟩) 1 [limX i]) := ⟨f_one BK.out rfl FK.out⟩
        have H6 := Aside0.mk (blk_below H6.out ST.out)
        have HN := Aside0.mk (Kd.N_below HN.out ST.out)
        have HB := Aside0.mk (join_below HB.out ST.out)
        have HL := Aside0.mk (join_below HL.out ST.out)
        clear ST BK FK
        refine hall1 (i := 10) (by kernel_rfl) (by rfl) (fun K hK => ?_)
        refine Kd.N_append_rows_step kTok W.heap.size (by rfl) (.tmp 39) (.tmp 47) 23 50 (.agg #[.string ⟨#[]⟩, .int .i64 0, .int .i64 0, .int .i64 0, .slice none 0 0, .slice none 0 0]) 88 rfl Tryd.underlying23 (by kernel_rfl) rfl (by decide) (by decide) (.slice A (limT m).length c) (limT m) [limX i] (some ⟨g9, 0, none⟩) 1 1 (fun q => W.heap.size ≤ q ∧ q ≠ b6) (fun q => q = g9 ∨ q = a0) rfl rfl (Kd.N_mono HN.out (fun q hq => hq.1)) F9.out (fun q hq => ⟨by have h1 := GA.out; have h2 := GC.out; have h3 := HLT6.out; have h4 := HLE.out; rcases hq with hq | hq <;> omega, fun e => by have h5 := (HN.out.1 q e.symm).2; have h1 := GA.out; have h2 := GC.out; rcases hq with hq | hq <;> omega⟩) (fun q hq => by have h1 := blk_lt H6.out; have h2 := HLE.out; omega) HB.out HB.out.size (by rw [HLM.out]; omega) ?_
        intro v1 u4 hN hB hg hat
        have e9 : limT (m + 1) = limT m ++ [limX i] := by rw [← HI.out]; rfl
        have N9 : Aside0 (Kd.N kTok 50 u4 W.heap.size (fun q => W.heap.size ≤ q ∧ q ≠ b6) v1 (limT (m + 1))) := ⟨by rw [e9]; exact hN⟩
        clear e9
        have H6 := Aside0.mk ((hg.block b6 (blk_lt H6.out) (fun e => (HN.out.1 b6 e.symm).1.2 rfl)).trans H6.out)
        have HB := Aside0.mk hB
        clear hN hB hg hat
        refine hK _ _ trivial ?_
        clear hK K
        ((refine takeQ (i := 11) (by rfl) (by kernel_rfl) (by kernel_rfl) (by kernel_rfl) ?_ ?_ ?_); (focus exact fun _ _ _ _ h => h); (focus exact trivial); intro K hK; go_simp; (with_reducible refine hK _ ?_); clear hK K)
        refine hall1 (i := 12) (by kernel_rfl) (by rfl) (fun K hK => ?_)
        obtain ⟨A9, c9, hv9⟩ := Kd.N_slice N9.out
        subst hv9
        have y0 : World.cell? u4 ⟨b6, 0, none⟩ = some (.slice A (limT m).length c) := (blk_cell H6.out 0).trans rfl
        have z0 := blk_frozen H6.out 0
        go_simp
        have HE := Aside0.mk (lim_put (b7 := b6 + 1) HB.out HLE.out N9.out H6.out)
        refine hK _ _ trivial ?_
        clear hK K y0 z0
        refine wpAnyH_done (by kernel_rfl) ?_ _
        go_wp2
        go_roundw
        case rel => exact ⟨m + 1, by rw [← HI.out]; go_num, by have := HLT.out; omega, HE⟩
        case measure => have := HLT.out; have := HI.out; simp [intOf]; omega
      · go_simp
        refine (one_any 120 _).mono ?_
        rintro e u1 ⟨a0, c0, E0, e0, X0, rfl, f1, f2, fX, f3, f4, f5, hb⟩
        have F0 := Aside0.mk (And.intro f2 (And.intro f3 f1))
        have GA : Aside0 (wr.heap.size ≤ a0) := ⟨by have := HL.out.size; omega⟩
        have H6 := Aside0.mk (blk_below H6.out hb)
        have HN := Aside0.mk (Kd.N_below HN.out hb)
        have HB := Aside0.mk (join_below HB.out hb)
        have HL := Aside0.mk (join_below HL.out hb)
        have GB : Aside0 (a0 < u1.heap.size) := ⟨f5⟩
        clear f1 f2 f3 f4 f5 fX hb
        refine hK _ _ trivial ?_
        clear hK K
        ((refine takeQ (i := 8) (by rfl) (by kernel_rfl) (by kernel_rfl) (by kernel_rfl) ?_ ?_ ?_); (focus exact fun _ _ _ _ h => h); (focus exact trivial); intro K hK; go_simp; (with_reducible refine hK _ ?_); clear hK K)
        refine hall2 (i := 1) (j := 9) (by kernel_rfl) (by rfl) (by rfl) (fun K hK => ?_) (fun K hK => ?_)
        · have y0 : World.cell? u1 ⟨b6, 0, none⟩ = some (.slice A (limT m).length c) := (blk_cell H6.out 0).trans rfl
          go_simp
          refine hK _ _ trivial ?_
          clear hK K y0
          refine hall1 (i := 9) (by kernel_rfl) (by rfl) (fun K hK => ?_)
          go_simp
          obtain ⟨u3, hv⟩ : ∃ x, u1.alloc (.cells #[.string (⟨#[116]⟩ ++ limB.extract i (i + 1)), .int .i64 0, .int .i64 0, .int .i64 2, .slice (some ⟨a0, 0, none⟩) 1 c0, .slice E0 0 e0] 50) = x := ⟨_, rfl⟩
          obtain ⟨g9, hg⟩ : ∃ x, u1.heap.size = x := ⟨_, rfl⟩
          refine hK _ _ trivial ?_
          clear hK K
          show wpAnyH _ _ _ _ _ _ _ _ (World.alloc _ (.cells #[.string (⟨#[116]⟩ ++ limB.extract i (i + 1)), .int .i64 0, .int .i64 0, .int .i64 2, .slice (some ⟨a0, 0, none⟩) 1 c0, .slice E0 0 e0] 50))
          rw [hv, hg]
          have ST : Aside0 (Below u1.heap.size u1 u3) := ⟨hv ▸ below1 _ _⟩
          have BK : Aside0 (u3.heap[g9]? = some (.cells #[.string (⟨#[116]⟩ ++ limB.extract i (i + 1)), .int .i64 0, .int .i64 0, .int .i64 2, .slice (some ⟨a0, 0, none⟩) 1 c0, .slice E0 0 e0] 50 (0, 0))) := ⟨by rw [← hv, ← hg]; exact blk_new _ _⟩
          have GC : Aside0 (wr.heap.size ≤ g9) := ⟨by have := HL.out.size; omega⟩
          clear hv hg
          have FK : Aside0 (Kd.FK kTok u3 (fun q => q = a0) (limX i) [.string (⟨#[116]⟩ ++ limB.extract i (i + 1)), .int .i64 0, .int .i64 0, .int .i64 2, .slice (some ⟨a0, 0, none⟩) 1 c0, .slice E0 0 e0]) := ⟨k50_mkF u3 (fun q => q = a0) (limX i) (show 1 ≤ c0 from F0.out.2.2) (Kd.F_below F0.out.1 ST.out) (show 0 ≤ e0 from Nat.zero_le _) (re_noneF (fun _ => re_none F0.out.2.1))⟩
          have F9 : Aside0 (Kd.F kTok u3 (fun q => q = g9 ∨ q = a0) (some ⟨g9, 0, none⟩) 1 [limX i]) := ⟨f_one BK.out rfl FK.out⟩
          have H6 := Aside0.mk (blk_below H6.out ST.out)
          have HN := Aside0.mk (Kd.N_below HN.out ST.out)
          have HB := Aside0.mk (join_below HB.out ST.out)
          have HL := Aside0.mk (join_below HL.out ST.out)
          clear ST BK FK
          refine hall1 (i := 10) (by kernel_rfl) (by rfl) (fun K hK => ?_)
          refine Kd.N_append_rows_step kTok W.heap.size (by rfl) (.tmp 39) (.tmp 47) 23 50 (.agg #[.string ⟨#[]⟩, .int .i64 0, .int .i64 0, .int .i64 0, .slice none 0 0, .slice none 0 0]) 88 rfl Tryd.underlying23 (by kernel_rfl) rfl (by decide) (by decide) (.slice A (limT m).length c) (limT m) [limX i] (some ⟨g9, 0, none⟩) 1 1 (fun q => W.heap.size ≤ q ∧ q ≠ b6) (fun q => q = g9 ∨ q = a0) rfl rfl (Kd.N_mono HN.out (fun q hq => hq.1)) F9.out (fun q hq => ⟨by have h1 := GA.out; have h2 := GC.out; have h3 := HLT6.out; have h4 := HLE.out; rcases hq with hq | hq <;> omega, fun e => by have h5 := (HN.out.1 q e.symm).2; have h1 := GA.out; have h2 := GC.out; rcases hq with hq | hq <;> omega⟩) (fun q hq => by have h1 := blk_lt H6.out; have h2 := HLE.out; omega) HB.out HB.out.size (by rw [HLM.out]; omega) ?_
          intro v1 u4 hN hB hg hat
          have e9 : limT (m + 1) = limT m ++ [limX i] := by rw [← HI.out]; rfl
          have N9 : Aside0 (Kd.N kTok 50 u4 W.heap.size (fun q => W.heap.size ≤ q ∧ q ≠ b6) v1 (limT (m + 1))) := ⟨by rw [e9]; exact hN⟩
          clear e9
          have H6 := Aside0.mk ((hg.block b6 (blk_lt H6.out) (fun e => (HN.out.1 b6 e.symm).1.2 rfl)).trans H6.out)
          have HB := Aside0.mk hB
          clear hN hB hg hat
          refine hK _ _ trivial ?_
          clear hK K
          ((refine takeQ (i := 11) (by rfl) (by kernel_rfl) (by kernel_rfl) (by kernel_rfl) ?_ ?_ ?_); (focus exact fun _ _ _ _ h => h); (focus exact trivial); intro K hK; go_simp; (with_reducible refine hK _ ?_); clear hK K)
          refine hall1 (i := 12) (by kernel_rfl) (by rfl) (fun K hK => ?_)
          obtain ⟨A9, c9, hv9⟩ := Kd.N_slice N9.out
          subst hv9
          have y0 : World.cell? u4 ⟨b6, 0, none⟩ = some (.slice A (limT m).length c) := (blk_cell H6.out 0).trans rfl
          have z0 := blk_frozen H6.out 0
          go_simp
          have HE := Aside0.mk (lim_put (b7 := b6 + 1) HB.out HLE.out N9.out H6.out)
          refine hK _ _ trivial ?_
          clear hK K y0 z0
          refine wpAnyH_done (by kernel_rfl) ?_ _
          go_wp2
          go_roundw
          case rel => exact ⟨m + 1, by rw [← HI.out]; go_num, by have := HLT.out; omega, HE⟩
          case measure => have := HLT.out; have := HI.out; simp [intOf]; omega
        · go_simp
          obtain ⟨u2, hv⟩ : ∃ x, u1.alloc (.cells #[.string (⟨#[116]⟩ ++ limB.extract i (i + 1)), .int .i64 0, .int .i64 0, .int .i64 2, .slice (some ⟨a0, 0, none⟩) 1 c0, .slice E0 0 e0] 50) = x := ⟨_, rfl⟩
          obtain ⟨g9, hg⟩ : ∃ x, u1.heap.size = x := ⟨_, rfl⟩
          refine hK _ _ trivial ?_
          clear hK K
          show wpAnyH _ _ _ _ _ _ _ _ (World.alloc _ (.cells #[.string (⟨#[116]⟩ ++ limB.extract i (i + 1)), .int .i64 0, .int .i64 0, .int .i64 2, .slice (some ⟨a0, 0, none⟩) 1 c0, .slice E0 0 e0] 50))
          rw [hv, hg]
          have ST : Aside0 (Below u1.heap.size u1 u2) := ⟨hv ▸ below1 _ _⟩
          have BK : Aside0 (u2.heap[g9]? = some (.cells #[.string (⟨#[116]⟩ ++ limB.extract i (i + 1)), .int .i64 0, .int .i64 0, .int .i64 2, .slice (some ⟨a0, 0, none⟩) 1 c0, .slice E0 0 e0] 50 (0, 0))) := ⟨by rw [← hv, ← hg]; exact blk_new _ _⟩
          have GC : Aside0 (wr.heap.size ≤ g9) := ⟨by have := HL.out.size; omega⟩
          clear hv hg
          have FK : Aside0 (Kd.FK kTok u2 (fun q => q = a0) (limX i) [.string (⟨#[116]⟩ ++ limB.extract i (i + 1)), .int .i64 0, .int .i64 0, .int .i64 2, .slice (some ⟨a0, 0, none⟩) 1 c0, .slice E0 0 e0]) := ⟨k50_mkF u2 (fun q => q = a0) (limX i) (show 1 ≤ c0 from F0.out.2.2) (Kd.F_below F0.out.1 ST.out) (show 0 ≤ e0 from Nat.zero_le _) (re_noneF (fun _ => re_none F0.out.2.1))⟩
          have F9 : Aside0 (Kd.F kTok u2 (fun q => q = g9 ∨ q = a0) (some ⟨g9, 0, none⟩) 1 [limX i]) := ⟨f_one BK.out rfl FK.out⟩
          have H6 := Aside0.mk (blk_below H6.out ST.out)
          have HN := Aside0.mk (Kd.N_below HN.out ST.out)
          have HB := Aside0.mk (join_below HB.out ST.out)
          have HL := Aside0.mk (join_below HL.out ST.out)
          clear ST BK FK
          refine hall1 (i := 1) (by kernel_rfl) (by rfl) (fun K hK => ?_)
          have y0 : World.cell? u2 ⟨b6, 0, none⟩ = some (.slice A (limT m).length c) := (blk_cell H6.out 0).trans rfl
          go_simp
          refine hK _ _ trivial ?_
          clear hK K y0
          refine hall1 (i := 10) (by kernel_rfl) (by rfl) (fun K hK => ?_)
          refine Kd.N_append_rows_step kTok W.heap.size (by rfl) (.tmp 39) (.tmp 47) 23 50 (.agg #[.string ⟨#[]⟩, .int .i64 0, .int .i64 0, .int .i64 0, .slice none 0 0, .slice none 0 0]) 88 rfl Tryd.underlying23 (by kernel_rfl) rfl (by decide) (by decide) (.slice A (limT m).length c) (limT m) [limX i] (some ⟨g9, 0, none⟩) 1 1 (fun q => W.heap.size ≤ q ∧ q ≠ b6) (fun q => q = g9 ∨ q = a0) rfl rfl (Kd.N_mono HN.out (fun q hq => hq.1)) F9.out (fun q hq => ⟨by have h1 := GA.out; have h2 := GC.out; have h3 := HLT6.out; have h4 := HLE.out; rcases hq with hq | hq <;> omega, fun e => by have h5 := (HN.out.1 q e.symm).2; have h1 := GA.out; have h2 := GC.out; rcases hq with hq | hq <;> omega⟩) (fun q hq => by have h1 := blk_lt H6.out; have h2 := HLE.out; omega) HB.out HB.out.size (by rw [HLM.out]; omega) ?_
          intro v1 u4 hN hB hg hat
          have e9 : limT (m + 1) = limT m ++ [limX i] := by rw [← HI.out]; rfl
          have N9 : Aside0 (Kd.N kTok 50 u4 W.heap.size (fun q => W.heap.size ≤ q ∧ q ≠ b6) v1 (limT (m + 1))) := ⟨by rw [e9]; exact hN⟩
          clear e9
          have H6 := Aside0.mk ((hg.block b6 (blk_lt H6.out) (fun e => (HN.out.1 b6 e.symm).1.2 rfl)).trans H6.out)
          have HB := Aside0.mk hB
          clear hN hB hg hat
          refine hK _ _ trivial ?_
          clear hK K
          ((refine takeQ (i := 11) (by rfl) (by kernel_rfl) (by kernel_rfl) (by kernel_rfl) ?_ ?_ ?_); (focus exact fun _ _ _ _ h => h); (focus exact trivial); intro K hK; go_simp; (with_reducible refine hK _ ?_); clear hK K)
          refine hall1 (i := 12) (by kernel_rfl) (by rfl) (fun K hK => ?_)
          obtain ⟨A9, c9, hv9⟩ := Kd.N_slice N9.out
          subst hv9
          have y0 : World.cell? u4 ⟨b6, 0, none⟩ = some (.slice A (limT m).length c) := (blk_cell H6.out 0).trans rfl
          have z0 := blk_frozen H6.out 0
          go_simp
          have HE := Aside0.mk (lim_put (b7 := b6 + 1) HB.out HLE.out N9.out H6.out)
          refine hK _ _ trivial ?_
          clear hK K y0 z0
          refine wpAnyH_done (by kernel_rfl) ?_ _
          go_wp2
          go_roundw
          case rel => exact ⟨m + 1, by rw [← HI.out]; go_num, by have := HLT.out; omega, HE⟩
          case measure => have := HLT.out; have := HI.out; simp [intOf]; omega
    · obtain rfl : m = 10 + k := by omega
      have y0 := (blk_cell h6 0).trans rfl
      have y1 := (blk_cell h6 1).trans rfl
      have HCR := Aside0.mk (Kd.N_reads' HN.out).2.2
      clear h6 hlt hm
      have hk' : k = 0 ∨ k = 1 ∨ k = 2 ∨ k = 3 := by omega
      rcases hk' with rfl | rfl | rfl | rfl
      all_goals
        have HC := HLim.out _ hk4
        simp only [Nat.reduceLT, if_true, if_false, Nat.reduceAdd] at HC
        have HC2 := Aside0.mk (HC A c none 0 _ HCR.out rul_nil (Kd.C_below HO.out HB.out))
        clear HC
        go_wp2_with fail
        refine HC2.out.mono ?_
        rintro e w3 ⟨rfl, hb⟩
        have HB3 := Aside0.mk (join_below HB.out hb)
        clear hb
        go_wp2_with fail
        refine (told_any HT.out.1 HT.out.2.1 HT.out.2.2 _ (Kd.C_below HO.out HB3.out)).mono ?_
        rintro e w4 ⟨rfl, hb⟩
        have HB4 := Aside0.mk (join_below HB3.out hb)
        clear hb y0 y1
        go_wp2
        go_ret
        exact ⟨rfl, HB4.out⟩
end Go.Proofs.YthdfmbmbjpmlaaaDoor.Rn
/- gobolaw11.GramLimits: rules. -/
set_option linter.unusedVariables false
set_option linter.unusedSimpArgs false
namespace Go.Proofs.YthdfmbmbjpmlaaaDoor.Rn
open Go Go.RowKit Go.Proofs.YthdfmbmbjpmlaaaDoorW.PrintWords Go.Proofs.YthdfmbmbjpmlaaaDoorW.PrintLast Go.Proofs.YthdfmbmbjpmlaaaDoorW.PrintMore
def limS : Stp := ⟨[⟨#[111]⟩], ⟨4, [], [], []⟩⟩
def limR : Rul := ⟨0, true, [limS]⟩
/-- a list of one text -/
theorem tx_one {W : World} {b : Nat} {s : ByteArray} {t : TypeId} (h : W.heap[b]? = some (.cells #[.string s] t (0, 0))) : Kd.F Kd.string W (fun q => q = b) (some ⟨b, 0, none⟩) 1 [s] := fun W' hW => by
  refine row_new ((hW b rfl (blk_lt h)).trans h) (show 1 ≤ _ by omega) (fun j y hy => ?_)
  match j, hy with
  | 0, hy =>
    obtain rfl := Option.some.inj hy
    refine ⟨[.string s], rfl, rfl, fun i u hu => ?_⟩
    match i, hu with
    | 0, hu => exact hu
    | i + 1, hu => simp at hu
  | j + 1, hy => simp at hy
/-- the rules so far -/
structure LimAt1 (w1 w : World) (gR cap : Nat) (A : Option Addr) (m c : Nat) : Prop where
  k6 : w.heap[w1.heap.size]? = some (.cells #[.slice (some ⟨gR, 0, none⟩) 4 cap, .slice A m c] 26 (0, 0))
  k7 : w.heap[w1.heap.size + 1]? = some (.cells #[.int .i64 0, .bool true, .slice (some ⟨w1.heap.size + 1 + 1 + 1, 0, none⟩) 1 1] 32 (0, 0))
  k8 : w.heap[w1.heap.size + 1 + 1]? = some (.cells #[.string ⟨#[111]⟩] 9 (0, 0))
  k9 : w.heap[w1.heap.size + 1 + 1 + 1]? = some (.cells #[.slice (some ⟨w1.heap.size + 1 + 1, 0, none⟩) 1 1, .int .i64 4, .slice none 0 0, .slice none 0 0, .slice none 0 0] 39 (0, 0))
  kN : Kd.N kRul 32 w w1.heap.size (fun q => w1.heap.size ≤ q ∧ q ≠ w1.heap.size ∧ q ≠ w1.heap.size + 1) (.slice A m c) (List.replicate m limR)
  kB : Below w1.heap.size w1 w
theorem lim_steps {w1 w : World} {gR cap : Nat} {A : Option Addr} {m c : Nat} (h : LimAt1 w1 w gR cap A m c) : Kd.F kStp w (fun q => q = w1.heap.size + 1 + 1 + 1 ∨ q = w1.heap.size + 1 + 1) (some ⟨w1.heap.size + 1 + 1 + 1, 0, none⟩) 1 [limS] :=
  f_one h.k9 rfl (k39_mkF w (fun q => q = w1.heap.size + 1 + 1) limS (show 1 ≤ 1 from Nat.le_refl _) (tx_one h.k8) (show 0 ≤ 0 from Nat.le_refl _) (Kd.F_nil _ _ _) (show 0 ≤ 0 from Nat.le_refl _) (Kd.F_nil _ _ _) (show 0 ≤ 0 from Nat.le_refl _) (Kd.F_nil _ _ _))
theorem lim_start {w1 w2 : World} {gR cap : Nat} (hw2 : ((((w1.alloc (.cells #[.slice (some ⟨gR, 0, none⟩) 4 cap, .slice none 0 0] 26)).alloc (.cells #[.int .i64 0, .bool true, .slice (some ⟨w1.heap.size + 1 + 1 + 1, 0, none⟩) 1 1] 32)).alloc (.cells #[.string ⟨#[111]⟩] 9)).alloc (.cells #[.slice (some ⟨w1.heap.size + 1 + 1, 0, none⟩) 1 1, .int .i64 4, .slice none 0 0, .slice none 0 0, .slice none 0 0] 39)) = w2) : LimAt1 w1 w2 gR cap none 0 0 := by
  refine ⟨?_, ?_, ?_, ?_, Kd.N_nil _ _ _ _ _, hw2 ▸ below_alloc (below_alloc (below_alloc (below1 _ _) _) _) _⟩
  · rw [← hw2]
    exact blk_alloc (blk_alloc (blk_alloc (blk_new _ _) _) _) _
  · rw [← hw2]
    exact blk_alloc (blk_alloc (second _ _ _ _) _) _
  · rw [← hw2]
    exact blk_alloc (third _ _ _ _ _) _
  · have h := blk_new (((w1.alloc (.cells #[.slice (some ⟨gR, 0, none⟩) 4 cap, .slice none 0 0] 26)).alloc (.cells #[.int .i64 0, .bool true, .slice (some ⟨w1.heap.size + 1 + 1 + 1, 0, none⟩) 1 1] 32)).alloc (.cells #[.string ⟨#[111]⟩] 9)) (.cells #[.slice (some ⟨w1.heap.size + 1 + 1, 0, none⟩) 1 1, .int .i64 4, .slice none 0 0, .slice none 0 0, .slice none 0 0] 39)
    rw [hw2] at h
    simpa using h
/-- one more rule -/
theorem lim_next {w1 w w' : World} {gR cap : Nat} {A : Option Addr} {m c : Nat} (h : LimAt1 w1 w gR cap A m c) {A' : Option Addr} {c' : Nat} {v : Value} (hv : v = .slice A m c)
    (hN : Kd.N kRul 32 w' w1.heap.size (fun q => w1.heap.size ≤ q ∧ q ≠ w1.heap.size ∧ q ≠ w1.heap.size + 1) (.slice A' (m + 1) c') (List.replicate m limR ++ [limR])) (hB : Below w1.heap.size w1 w') (hg : w.grownBy w' v.ownBlock) :
    LimAt1 w1 (w'.setCell ⟨w1.heap.size, 1, none⟩ (.slice A' (m + 1) c')) gR cap A' (m + 1) c' := by
  subst hv
  have o6 : some w1.heap.size ≠ (Value.slice A m c).ownBlock := fun e => (h.kN.1 _ e.symm).2.1 rfl
  have o7 : some (w1.heap.size + 1) ≠ (Value.slice A m c).ownBlock := fun e => (h.kN.1 _ e.symm).2.2 rfl
  have o8 : some (w1.heap.size + 1 + 1) ≠ (Value.slice A m c).ownBlock := Kd.N_ne h.kN h.k8 (by decide)
  have o9 : some (w1.heap.size + 1 + 1 + 1) ≠ (Value.slice A m c).ownBlock := Kd.N_ne h.kN h.k9 (by decide)
  have e : List.replicate (m + 1) limR = List.replicate m limR ++ [limR] := List.replicate_succ'
  refine ⟨?_, ?_, ?_, ?_, ?_, hB.setCell (Nat.le_refl _) _⟩
  · exact blk_put ((hg.block _ (blk_lt h.k6) o6).trans h.k6) 1 _ rfl
  · exact blk_far ((hg.block _ (blk_lt h.k7) o7).trans h.k7) (by show _ ≠ w1.heap.size; omega) _
  · exact blk_far ((hg.block _ (blk_lt h.k8) o8).trans h.k8) (by show _ ≠ w1.heap.size; omega) _
  · exact blk_far ((hg.block _ (blk_lt h.k9) o9).trans h.k9) (by show _ ≠ w1.heap.size; omega) _
  · rw [e]
    exact Kd.N_far hN (p := ⟨w1.heap.size, 1, none⟩) (fun k hk => hk.2.1) _
set_option maxHeartbeats 8000000 in
set_option maxRecDepth 100000 in
theorem limits_1 (h0 : ChkC [] [] 6 0) (h1 : ChkC madeT [] 0 0) (h2 : ChkC twiceT [] 4 4) (hL : ∀ k : Nat, k < 4 → ChkC madeT (List.replicate (6 + k) limR) (if k < 3 then 0 else 6) (if k < 3 then 0 else 4))
    (a n : Int) (k : Nat) (hk : wrap64 ((IntKind.u64.wrap n).tmod 4) = k) (hk4 : k < 4) (hj : wrap64 ((IntKind.u64.wrap a).tmod 3) = 1) (W : World) (hO : OwnAt W) :
    Calls Tryd.prog 5 #[.int .i64 a, .int .i64 n] W fun e W' => e = .returned (.bool true) ∧ Below W.heap.size W W' := by
  have HO := Aside0.mk hO
  have HT := Aside0.mk (And.intro h0 (And.intro h1 h2))
  have HLim := Aside0.mk hL
  clear hO h0 h1 h2 hL
  go_enter Tryd.func5, Tryd.ntmps5
  go_wp2_with fail
  refine (make_nil _).mono ?_
  rintro e w1 ⟨v, rfl, hN, hb⟩
  obtain ⟨gR, cap, rfl, hg, hg2, X, hX⟩ := Kd.N_form hN (show 0 < madeT.length from by decide)
  have hl4 : madeT.length = 4 := rfl
  rw [hl4] at hN ⊢
  have HB1 := Aside0.mk hb
  have HN := Aside0.mk hN
  clear hN hb hg hg2 hX hl4
  go_wp2
  obtain ⟨w2, hw2⟩ : ∃ x, ((((w1.alloc (.cells #[.slice (some ⟨gR, 0, none⟩) 4 cap, .slice none 0 0] 26)).alloc (.cells #[.int .i64 0, .bool true, .slice (some ⟨w1.heap.size + 1 + 1 + 1, 0, none⟩) 1 1] 32)).alloc (.cells #[.string ⟨#[111]⟩] 9)).alloc (.cells #[.slice (some ⟨w1.heap.size + 1 + 1, 0, none⟩) 1 1, .int .i64 4, .slice none 0 0, .slice none 0 0, .slice none 0 0] 39)) = x := ⟨_, rfl⟩
  have HST := Aside0.mk (lim_start hw2)
  have HCT : Aside0 (∀ w', Below w1.heap.size w1 w' → kTok.C w' (some ⟨gR, 0, none⟩) 4 madeT) := ⟨fun w' hb => Kd.C_below (Kd.N_reads' HN.out).2.2 hb⟩
  rw [hw2]
  clear hw2 HN hk hj
  go_loopw [11] (fun i w' => ∃ (m : Nat) (A : Option Addr) (c : Nat), i = .int .i64 (m : Int) ∧ m ≤ 6 + k ∧ Aside0 (LimAt1 w1 w' gR cap A m c)) (fun i _ => 6 + k - (intOf i).toNat)
  case atStart => exact ⟨0, none, 0, rfl, Nat.zero_le _, HST⟩
  case round =>
    obtain ⟨m, A, c, rfl, hm, HS⟩ := hrel
    by_cases hlt : m < 6 + k
    · have HLT := Aside0.mk hlt
      have y1 : wr.cell? ⟨w1.heap.size, 1, none⟩ = some (.slice A m c) := (blk_cell HS.out.k6 1).trans rfl
      have z0 : wr.cell? ⟨w1.heap.size + 1, 0, none⟩ = some (.int .i64 0) := (blk_cell HS.out.k7 0).trans rfl
      have z1 : wr.cell? ⟨w1.heap.size + 1, 1, none⟩ = some (.bool true) := (blk_cell HS.out.k7 1).trans rfl
      have z2 : wr.cell? ⟨w1.heap.size + 1, 2, none⟩ = some (.slice (some ⟨w1.heap.size + 1 + 1 + 1, 0, none⟩) 1 1) := (blk_cell HS.out.k7 2).trans rfl
      go_wp2_with ((with_reducible refine gate_builtin (b := .append) (xs := #[.tmp 90, .tmp 92]) rfl ?_); refine Kd.N_append kRul (w0 := w1) w1.heap.size ?hg (.tmp 90) (.tmp 92) 24 32 (.agg #[.int .i64 0, .bool false, .slice none 0 0]) 40 rfl ?ht (by kernel_rfl) rfl (by decide) (by decide) (.slice A m c) (List.replicate m limR) limR [.int .i64 0, .bool true, .slice (some ⟨w1.heap.size + 1 + 1 + 1, 0, none⟩) 1 1] (fun q => w1.heap.size ≤ q ∧ q ≠ w1.heap.size ∧ q ≠ w1.heap.size + 1) (fun q => q = w1.heap.size + 1 + 1 + 1 ∨ q = w1.heap.size + 1 + 1) rfl rfl (k32_mkF wr _ limR (show 1 ≤ 1 from Nat.le_refl _) (lim_steps HS.out)) (fun q hq => ⟨by rcases hq with hq | hq <;> (rw [hq]; omega), by rcases hq with hq | hq <;> rw [hq]; (exact Kd.N_ne HS.out.kN HS.out.k9 (by decide)); (exact Kd.N_ne HS.out.kN HS.out.k8 (by decide))⟩) (fun q hq => by have := blk_lt HS.out.k7; omega) HS.out.kN HS.out.kB HS.out.kB.size (by rw [List.length_replicate]; omega) ?_; (case hg => rfl); (case ht => exact Tryd.underlying24); intro v1 w3 hN hB hgr hat; obtain ⟨A1, c1, hv1⟩ := Kd.N_slice hN; (rw [List.length_append, List.length_replicate] at hv1); subst hv1; have HX := Aside0.mk (And.intro (lim_next HS.out rfl hN hB hgr) (And.intro ((hgr.block _ (blk_lt HS.out.k6) (fun e => (HS.out.kN.1 _ e.symm).2.1 rfl)).trans HS.out.k6) hB)); have y2 : w3.cell? ⟨w1.heap.size, 1, none⟩ = some (.slice A m c) := (blk_cell HX.out.2.1 1).trans rfl; have y3 := blk_frozen HX.out.2.1 1; clear hN hB hgr hat)
      go_roundw
      case rel => exact ⟨m + 1, A1, c1, by go_num, by have := HLT.out; omega, ⟨HX.out.1⟩⟩
      case measure => simp [intOf]; omega
    · obtain rfl : m = 6 + k := by omega
      have y0 := (blk_cell HS.out.k6 0).trans rfl
      have y1 := (blk_cell HS.out.k6 1).trans rfl
      have HCR := Aside0.mk (Kd.N_reads' HS.out.kN).2.2
      have HB := Aside0.mk (join_below HB1.out HS.out.kB)
      clear hlt hm
      have hk' : k = 0 ∨ k = 1 ∨ k = 2 ∨ k = 3 := by omega
      rcases hk' with rfl | rfl | rfl | rfl
      all_goals
        have HC := HLim.out _ hk4
        simp only [Nat.reduceLT, if_true, if_false, Nat.reduceAdd] at HC HCR y0 y1
        have HC2 := Aside0.mk (HC (some ⟨gR, 0, none⟩) cap A c _ (HCT.out _ HS.out.kB) HCR.out (Kd.C_below HO.out HB.out))
        clear HC
        go_wp2_with fail
        refine HC2.out.mono ?_
        rintro e w3 ⟨rfl, hb⟩
        have HB3 := Aside0.mk (join_below HB.out hb)
        have y4 : w3.cell? ⟨w1.heap.size, 0, none⟩ = some (.slice (some ⟨gR, 0, none⟩) 4 cap) := (blk_cell (blk_below HS.out.k6 hb) 0).trans rfl
        have HK6 := Aside0.mk (blk_below HS.out.k6 hb)
        clear hb
        go_wp2_with fail
        refine (told_any HT.out.1 HT.out.2.1 HT.out.2.2 _ (Kd.C_below HO.out HB3.out)).mono ?_
        rintro e w4 ⟨rfl, hb⟩
        have HB4 := Aside0.mk (join_below HB3.out hb)
        have y5 : w4.cell? ⟨w1.heap.size, 0, none⟩ = some (.slice (some ⟨gR, 0, none⟩) 4 cap) := (blk_cell (blk_below HK6.out hb) 0).trans rfl
        clear hb y0 y1 y4
        go_wp2
        go_ret
        exact ⟨rfl, HB4.out⟩
end Go.Proofs.YthdfmbmbjpmlaaaDoor.Rn
/- gobolaw11.GramLimits: steps. -/
set_option linter.unusedVariables false
set_option linter.unusedSimpArgs false
namespace Go.Proofs.YthdfmbmbjpmlaaaDoor.Rn
open Go Go.RowKit Go.Proofs.YthdfmbmbjpmlaaaDoorW.PrintWords Go.Proofs.YthdfmbmbjpmlaaaDoorW.PrintLast Go.Proofs.YthdfmbmbjpmlaaaDoorW.PrintMore
def limE : Stp := ⟨[⟨#[111]⟩], ⟨1, [], [], []⟩⟩
/-- the steps so far -/
structure LimAt2 (w1 w : World) (gR cap : Nat) (A : Option Addr) (m c : Nat) : Prop where
  k6 : w.heap[w1.heap.size]? = some (.cells #[.slice (some ⟨gR, 0, none⟩) 4 cap, .slice none 0 0] 26 (0, 0))
  k7 : w.heap[w1.heap.size + 1]? = some (.cells #[.int .i64 0, .bool true, .slice A m c] 32 (0, 0))
  kN : Kd.N kStp 39 w w1.heap.size (fun q => w1.heap.size ≤ q ∧ q ≠ w1.heap.size ∧ q ≠ w1.heap.size + 1) (.slice A m c) (List.replicate m limE)
  kB : Below w1.heap.size w1 w
theorem LimAt2.later {w1 w w' : World} {gR cap : Nat} {A : Option Addr} {m c : Nat} (h : LimAt2 w1 w gR cap A m c) (hb : Below w.heap.size w w') : LimAt2 w1 w' gR cap A m c :=
  ⟨blk_below h.k6 hb, blk_below h.k7 hb, Kd.N_below h.kN hb, join_below h.kB hb⟩
theorem lim_start2 {w1 w2 : World} {gR cap : Nat} (hw2 : (w1.alloc (.cells #[.slice (some ⟨gR, 0, none⟩) 4 cap, .slice none 0 0] 26)).alloc (.cells #[.int .i64 0, .bool true, .slice none 0 0] 32) = w2) : LimAt2 w1 w2 gR cap none 0 0 := by
  refine ⟨?_, ?_, Kd.N_nil _ _ _ _ _, hw2 ▸ below_alloc (below1 _ _) _⟩
  · rw [← hw2]
    exact blk_alloc (blk_new _ _) _
  · rw [← hw2]
    exact second _ _ _ _
/-- one more step -/
theorem lim_next2 {w1 w w' : World} {gR cap : Nat} {A : Option Addr} {m c : Nat} (h : LimAt2 w1 w gR cap A m c) {A' : Option Addr} {c' : Nat} {v : Value} (hv : v = .slice A m c)
    (hN : Kd.N kStp 39 w' w1.heap.size (fun q => w1.heap.size ≤ q ∧ q ≠ w1.heap.size ∧ q ≠ w1.heap.size + 1) (.slice A' (m + 1) c') (List.replicate m limE ++ [limE])) (hB : Below w1.heap.size w1 w') (hg : w.grownBy w' v.ownBlock) :
    LimAt2 w1 (w'.setCell ⟨w1.heap.size + 1, 2, none⟩ (.slice A' (m + 1) c')) gR cap A' (m + 1) c' := by
  subst hv
  have o6 : some w1.heap.size ≠ (Value.slice A m c).ownBlock := fun e => (h.kN.1 _ e.symm).2.1 rfl
  have o7 : some (w1.heap.size + 1) ≠ (Value.slice A m c).ownBlock := fun e => (h.kN.1 _ e.symm).2.2 rfl
  have e : List.replicate (m + 1) limE = List.replicate m limE ++ [limE] := List.replicate_succ'
  refine ⟨?_, ?_, ?_, hB.setCell (Nat.le_succ _) _⟩
  · exact blk_far ((hg.block _ (blk_lt h.k6) o6).trans h.k6) (by show _ ≠ w1.heap.size + 1; omega) _
  · exact blk_put ((hg.block _ (blk_lt h.k7) o7).trans h.k7) 2 _ rfl
  · rw [e]
    exact Kd.N_far hN (p := ⟨w1.heap.size + 1, 2, none⟩) (fun k hk => hk.2.2) _
theorem rul_one {W : World} {b n c : Nat} {A : Option Addr} {l : List Stp} {ok : Nat → Prop} (hb : W.heap[b]? = some (.cells #[.int .i64 0, .bool true, .slice A n c] 32 (0, 0))) (hn : l.length = n) (hc : n ≤ c) (hF : Kd.F kStp W ok A n l) : kRul.C W (some ⟨b, 0, none⟩) 1 [⟨0, true, l⟩] := by
  subst hn
  exact Kd.F_now (f_one hb rfl (k32_mkF W ok ⟨0, true, l⟩ hc hF))
set_option maxHeartbeats 8000000 in
set_option maxRecDepth 100000 in
theorem limits_2 (h0 : ChkC [] [] 6 0) (h1 : ChkC madeT [] 0 0) (h2 : ChkC twiceT [] 4 4) (hL : ∀ k : Nat, k < 4 → ChkC madeT [⟨0, true, List.replicate (2 + k) limE⟩] (if k < 3 then 0 else 6) (if k < 3 then 0 else 4))
    (a n : Int) (k : Nat) (hk : wrap64 ((IntKind.u64.wrap n).tmod 4) = k) (hk4 : k < 4) (hj : wrap64 ((IntKind.u64.wrap a).tmod 3) = 2) (W : World) (hO : OwnAt W) :
    Calls Tryd.prog 5 #[.int .i64 a, .int .i64 n] W fun e W' => e = .returned (.bool true) ∧ Below W.heap.size W W' := by
  have HO := Aside0.mk hO
  have HT := Aside0.mk (And.intro h0 (And.intro h1 h2))
  have HLim := Aside0.mk hL
  clear hO h0 h1 h2 hL
  go_enter Tryd.func5, Tryd.ntmps5
  go_wp2_with fail
  refine (make_nil _).mono ?_
  rintro e w1 ⟨v, rfl, hN, hb⟩
  obtain ⟨gR, cap, rfl, hg, hg2, X, hX⟩ := Kd.N_form hN (show 0 < madeT.length from by decide)
  have hl4 : madeT.length = 4 := rfl
  rw [hl4] at hN ⊢
  have HB1 := Aside0.mk hb
  have HN := Aside0.mk hN
  clear hN hb hg hg2 hX hl4
  go_wp2
  obtain ⟨w2, hw2⟩ : ∃ x, (w1.alloc (.cells #[.slice (some ⟨gR, 0, none⟩) 4 cap, .slice none 0 0] 26)).alloc (.cells #[.int .i64 0, .bool true, .slice none 0 0] 32) = x := ⟨_, rfl⟩
  have HST := Aside0.mk (lim_start2 hw2)
  have HCT : Aside0 (∀ w', Below w1.heap.size w1 w' → kTok.C w' (some ⟨gR, 0, none⟩) 4 madeT) := ⟨fun w' hb => Kd.C_below (Kd.N_reads' HN.out).2.2 hb⟩
  rw [hw2]
  clear hw2 HN hk hj
  go_loopw [14] (fun i w' => ∃ (m : Nat) (A : Option Addr) (c : Nat), i = .int .i64 (m : Int) ∧ m ≤ 2 + k ∧ Aside0 (LimAt2 w1 w' gR cap A m c)) (fun i _ => 2 + k - (intOf i).toNat)
  case atStart => exact ⟨0, none, 0, rfl, Nat.zero_le _, HST⟩
  case round =>
    obtain ⟨m, A, c, rfl, hm, HS⟩ := hrel
    by_cases hlt : m < 2 + k
    · have HLT := Aside0.mk hlt
      have y1 : wr.cell? ⟨w1.heap.size + 1, 2, none⟩ = some (.slice A m c) := (blk_cell HS.out.k7 2).trans rfl
      have HV := Aside0.mk (HS.out.later (below1 wr (.cells #[.string ⟨#[111]⟩] 9)))
      have HTX : Aside0 (Kd.F Kd.string (wr.alloc (.cells #[.string ⟨#[111]⟩] 9)) (fun q => q = wr.heap.size) (some ⟨wr.heap.size, 0, none⟩) 1 [⟨#[111]⟩]) := ⟨tx_one (blk_new _ _)⟩
      go_wp2_with ((with_reducible refine gate_builtin (b := .append) (xs := #[.tmp 131, .tmp 135]) rfl ?_); refine Kd.N_append kStp (w0 := w1) w1.heap.size ?hg (.tmp 131) (.tmp 135) 30 39 (.agg #[.slice none 0 0, .int .i64 0, .slice none 0 0, .slice none 0 0, .slice none 0 0]) 104 rfl ?ht (by kernel_rfl) rfl (by decide) (by decide) (.slice A m c) (List.replicate m limE) limE [.slice (some ⟨wr.heap.size, 0, none⟩) 1 1, .int .i64 1, .slice none 0 0, .slice none 0 0, .slice none 0 0] (fun q => w1.heap.size ≤ q ∧ q ≠ w1.heap.size ∧ q ≠ w1.heap.size + 1) (fun q => q = wr.heap.size) rfl (by simp [Act.eval]) (k39_mkF _ _ limE (show 1 ≤ 1 from Nat.le_refl _) HTX.out (show 0 ≤ 0 from Nat.le_refl _) (Kd.F_nil _ _ _) (show 0 ≤ 0 from Nat.le_refl _) (Kd.F_nil _ _ _) (show 0 ≤ 0 from Nat.le_refl _) (Kd.F_nil _ _ _)) (fun q hq => ⟨by have := blk_lt HS.out.k7; rw [hq]; omega, fun e => by have := Kd.N_lt HS.out.kN q e.symm; omega⟩) (fun q hq => by have := blk_lt HV.out.k7; omega) HV.out.kN HV.out.kB HV.out.kB.size (by rw [List.length_replicate]; omega) ?_; (case hg => rfl); (case ht => exact Tryd.underlying30); intro v1 w3 hN hB hgr hat; obtain ⟨A1, c1, hv1⟩ := Kd.N_slice hN; (rw [List.length_append, List.length_replicate] at hv1); subst hv1; have HX := Aside0.mk (And.intro (lim_next2 HV.out rfl hN hB hgr) (And.intro ((hgr.block _ (blk_lt HV.out.k7) (fun e => (HV.out.kN.1 _ e.symm).2.2 rfl)).trans HV.out.k7) hB)); have y2 : w3.cell? ⟨w1.heap.size + 1, 2, none⟩ = some (.slice A m c) := (blk_cell HX.out.2.1 2).trans rfl; have y3 := blk_frozen HX.out.2.1 2; clear hN hB hgr hat)
      go_roundw
      case rel => exact ⟨m + 1, A1, c1, by go_num, by have := HLT.out; omega, ⟨HX.out.1⟩⟩
      case measure => simp [intOf]; omega
    · obtain rfl : m = 2 + k := by omega
      have x0 : wr.cell? ⟨w1.heap.size + 1, 0, none⟩ = some (.int .i64 0) := (blk_cell HS.out.k7 0).trans rfl
      have x1 : wr.cell? ⟨w1.heap.size + 1, 1, none⟩ = some (.bool true) := (blk_cell HS.out.k7 1).trans rfl
      have x2 : wr.cell? ⟨w1.heap.size + 1, 2, none⟩ = some (.slice A (2 + k) c) := (blk_cell HS.out.k7 2).trans rfl
      have HLt6 := Aside0.mk (blk_lt HS.out.k6)
      clear hlt hm
      obtain ⟨wA, hwA⟩ : ∃ x, wr.alloc (.cells #[.int .i64 0, .bool true, .slice A (2 + k) c] 32) = x := ⟨_, rfl⟩
      have HV : Aside0 (LimAt2 w1 wA gR cap A (2 + k) c) := ⟨hwA ▸ HS.out.later (below1 _ _)⟩
      have HVB : Aside0 (wA.heap[wr.heap.size]? = some (.cells #[.int .i64 0, .bool true, .slice A (2 + k) c] 32 (0, 0))) := ⟨by rw [← hwA]; exact blk_new _ _⟩
      have y1 : wA.cell? ⟨w1.heap.size, 1, none⟩ = some (.slice none 0 0) := (blk_cell HV.out.k6 1).trans rfl
      have y2 := blk_frozen HV.out.k6 1
      have HP := Aside0.mk (blk_put HV.out.k6 1 (.slice (some ⟨wr.heap.size, 0, none⟩) 1 1) rfl)
      have y3 : (wA.setCell ⟨w1.heap.size, 1, none⟩ (.slice (some ⟨wr.heap.size, 0, none⟩) 1 1)).cell? ⟨w1.heap.size, 0, none⟩ = some (.slice (some ⟨gR, 0, none⟩) 4 cap) := (blk_cell HP.out 0).trans rfl
      have y4 : (wA.setCell ⟨w1.heap.size, 1, none⟩ (.slice (some ⟨wr.heap.size, 0, none⟩) 1 1)).cell? ⟨w1.heap.size, 1, none⟩ = some (.slice (some ⟨wr.heap.size, 0, none⟩) 1 1) := (blk_cell HP.out 1).trans rfl
      have HBZ : Aside0 (Below w1.heap.size w1 (wA.setCell ⟨w1.heap.size, 1, none⟩ (.slice (some ⟨wr.heap.size, 0, none⟩) 1 1))) := ⟨HV.out.kB.setCell (Nat.le_refl _) _⟩
      have HRZ : Aside0 (kRul.C (wA.setCell ⟨w1.heap.size, 1, none⟩ (.slice (some ⟨wr.heap.size, 0, none⟩) 1 1)) (some ⟨wr.heap.size, 0, none⟩) 1 [⟨0, true, List.replicate (2 + k) limE⟩]) := ⟨by
        have hF := Kd.F_far (p := ⟨w1.heap.size, 1, none⟩) (Kd.N_F HV.out.kN) (fun q hq => hq.2.1) (.slice (some ⟨wr.heap.size, 0, none⟩) 1 1)
        have hb := blk_far (p := ⟨w1.heap.size, 1, none⟩) HVB.out (by have := HLt6.out; show wr.heap.size ≠ w1.heap.size; omega) (.slice (some ⟨wr.heap.size, 0, none⟩) 1 1)
        exact rul_one hb List.length_replicate (Kd.N_reads' HV.out.kN).2.1 hF⟩
      have hk' : k = 0 ∨ k = 1 ∨ k = 2 ∨ k = 3 := by omega
      rcases hk' with rfl | rfl | rfl | rfl
      all_goals
        have HC := HLim.out _ hk4
        simp only [Nat.reduceLT, if_true, if_false, Nat.reduceAdd] at HC x2 hwA HRZ
        have HC2 := Aside0.mk (HC (some ⟨gR, 0, none⟩) cap (some ⟨wr.heap.size, 0, none⟩) 1 _ (HCT.out _ HBZ.out) HRZ.out (Kd.C_below HO.out (join_below HB1.out HBZ.out)))
        clear HC
        go_wp2_with fail
        clear hwA
        refine HC2.out.mono ?_
        rintro e w3 ⟨rfl, hb⟩
        have HB3 := Aside0.mk (join_below HB1.out (join_below HBZ.out hb))
        have HK6 := Aside0.mk (blk_below HP.out hb)
        have z4 : w3.cell? ⟨w1.heap.size, 0, none⟩ = some (.slice (some ⟨gR, 0, none⟩) 4 cap) := (blk_cell HK6.out 0).trans rfl
        clear hb
        go_wp2_with fail
        refine (told_any HT.out.1 HT.out.2.1 HT.out.2.2 _ (Kd.C_below HO.out HB3.out)).mono ?_
        rintro e w4 ⟨rfl, hb⟩
        have HB4 := Aside0.mk (join_below HB3.out hb)
        have z5 : w4.cell? ⟨w1.heap.size, 0, none⟩ = some (.slice (some ⟨gR, 0, none⟩) 4 cap) := (blk_cell (blk_below HK6.out hb) 0).trans rfl
        clear hb y1 y2 y3 y4 z4
        go_wp2
        go_ret
        exact ⟨rfl, HB4.out⟩
end Go.Proofs.YthdfmbmbjpmlaaaDoor.Rn
/- what Check tells of the grammars that the laws name. -/
set_option linter.unusedVariables false
set_option linter.unusedSimpArgs false
namespace Go.Proofs.YthdfmbmbjpmlaaaDoor.Rn
open Go Go.RowKit Go.Proofs.YthdfmbmbjpmlaaaDoorW.PrintWords Go.Proofs.YthdfmbmbjpmlaaaDoorW.PrintLast Go.Proofs.YthdfmbmbjpmlaaaDoorW.PrintMore
/-- Check, where each token's expression may be, and is of no empty text -/
theorem chk_of (T : List Tok) (R : List Rul) (c n : Int) (hT : ∀ t, t ∈ T → TokOk (fun _ => true) (fun _ => false) t) (h : codeOf (checkS (fun _ => true) (fun _ => false) T R) = (c, n)) : ChkC T R c n := fun AT ct AR cr W h1 h2 h3 => by
  refine (check_any (fun _ => true) (fun _ => false) T R hT AT ct AR cr W h1 h2 h3).mono ?_
  rintro e w ⟨rfl, hb⟩
  rw [h]
  exact ⟨rfl, hb⟩
theorem ok_set (s : ByteArray) (a b : Int) (l : List S56) (hs : s.size ≤ 9223372036854775807) (hm : regex_May.f 2 l [] = some true) (he : ∃ k, regex_Empty.f k 2 l [] = some false) : TokOk (fun _ => true) (fun _ => false) ⟨s, a, b, ⟨2, l, []⟩⟩ := ⟨hs, hm, fun _ => he⟩
theorem may_97 : regex_May.f 2 [⟨97, 97⟩] [] = some true := by kernel_rfl
theorem may_99 : regex_May.f 2 [⟨99, 99⟩] [] = some true := by kernel_rfl
theorem may_100 : regex_May.f 2 [⟨100, 100⟩] [] = some true := by kernel_rfl
theorem may_120 : regex_May.f 2 [⟨120, 120⟩] [] = some true := by kernel_rfl
theorem may_b : regex_May.f 2 [⟨10, 10⟩, ⟨98, 98⟩] [] = some true := by kernel_rfl
theorem emp_97 : regex_Empty.f 9 2 [⟨97, 97⟩] [] = some false := by kernel_rfl
theorem emp_99 : regex_Empty.f 9 2 [⟨99, 99⟩] [] = some false := by kernel_rfl
theorem emp_100 : regex_Empty.f 9 2 [⟨100, 100⟩] [] = some false := by kernel_rfl
theorem emp_120 : regex_Empty.f 9 2 [⟨120, 120⟩] [] = some false := by kernel_rfl
theorem emp_b : regex_Empty.f 9 2 [⟨10, 10⟩, ⟨98, 98⟩] [] = some false := by kernel_rfl
theorem made_ok (t : Tok) (h : t ∈ madeT) : TokOk (fun _ => true) (fun _ => false) t := by
  simp only [madeT, oneT, List.mem_cons, List.not_mem_nil, or_false] at h
  rcases h with rfl | rfl | rfl | rfl
  · exact ok_set _ _ _ _ (by decide) may_97 ⟨_, emp_97⟩
  · exact ok_set _ _ _ _ (by decide) may_b ⟨_, emp_b⟩
  · exact ok_set _ _ _ _ (by decide) may_99 ⟨_, emp_99⟩
  · exact ok_set _ _ _ _ (by decide) may_100 ⟨_, emp_100⟩
theorem lim_ok : ∀ (m : Nat) (t : Tok), t ∈ limT m → TokOk (fun _ => true) (fun _ => false) t
  | 0, t, h => made_ok t h
  | m + 1, t, h => by
    rcases List.mem_append.1 h with h | h
    · exact lim_ok m t h
    · obtain rfl := List.mem_singleton.1 h
      refine ok_set _ _ _ _ ?_ may_120 ⟨_, emp_120⟩
      have h1 : (⟨#[116]⟩ ++ limB.extract (4 + m) (4 + m + 1) : ByteArray).size ≤ 2 := by
        rw [ByteArray.size_append, ByteArray.size_extract]
        have : (⟨#[116]⟩ : ByteArray).size = 1 := rfl
        omega
      omega
theorem chk_none : ChkC [] [] 6 0 := chk_of [] [] 6 0 (fun t h => by simp at h) (by kernel_rfl)
theorem chk_made : ChkC madeT [] 0 0 := chk_of madeT [] 0 0 made_ok (by kernel_rfl)
theorem chk_twice : ChkC twiceT [] 4 4 := chk_of twiceT [] 4 4 (fun t h => by
  rcases List.mem_append.1 h with h | h
  · exact made_ok t h
  · obtain rfl := List.mem_singleton.1 h
    exact ok_set _ _ _ _ (by decide) may_97 ⟨_, emp_97⟩) (by kernel_rfl)
theorem chk_lim0 (k : Nat) (hk : k < 4) : ChkC (limT (10 + k)) [] (if k < 3 then 0 else 6) 0 := by
  have h : k = 0 ∨ k = 1 ∨ k = 2 ∨ k = 3 := by omega
  rcases h with rfl | rfl | rfl | rfl
  · exact chk_of _ _ _ _ (lim_ok _) (by kernel_rfl)
  · exact chk_of _ _ _ _ (lim_ok _) (by kernel_rfl)
  · exact chk_of _ _ _ _ (lim_ok _) (by kernel_rfl)
  · exact chk_of _ _ _ _ (lim_ok _) (by kernel_rfl)
theorem chk_lim1 (k : Nat) (hk : k < 4) : ChkC madeT (List.replicate (6 + k) limR) (if k < 3 then 0 else 6) (if k < 3 then 0 else 4) := by
  have h : k = 0 ∨ k = 1 ∨ k = 2 ∨ k = 3 := by omega
  rcases h with rfl | rfl | rfl | rfl
  · exact chk_of _ _ _ _ made_ok (by kernel_rfl)
  · exact chk_of _ _ _ _ made_ok (by kernel_rfl)
  · exact chk_of _ _ _ _ made_ok (by kernel_rfl)
  · exact chk_of _ _ _ _ made_ok (by kernel_rfl)
theorem chk_lim2 (k : Nat) (hk : k < 4) : ChkC madeT [⟨0, true, List.replicate (2 + k) limE⟩] (if k < 3 then 0 else 6) (if k < 3 then 0 else 4) := by
  have h : k = 0 ∨ k = 1 ∨ k = 2 ∨ k = 3 := by omega
  rcases h with rfl | rfl | rfl | rfl
  · exact chk_of _ _ _ _ made_ok (by kernel_rfl)
  · exact chk_of _ _ _ _ made_ok (by kernel_rfl)
  · exact chk_of _ _ _ _ made_ok (by kernel_rfl)
  · exact chk_of _ _ _ _ made_ok (by kernel_rfl)
theorem wrap_u (n : Int) : 0 ≤ IntKind.u64.wrap n := by
  rw [IntKind.wrap_u64]
  omega
theorem limits_any (a n : Int) (W : World) (hO : OwnAt W) :
    Calls Tryd.prog 5 #[.int .i64 a, .int .i64 n] W fun e W' => e = .returned (.bool true) ∧ Below W.heap.size W W' := by
  have md : ∀ (x m : Int), 0 ≤ x → 0 < m → m ≤ 4 → wrap64 (x.tmod m) = x % m := fun x m hx hm h4 => by
    rw [Int.tmod_eq_emod_of_nonneg hx]
    have h1 := Int.emod_nonneg x (show m ≠ 0 by omega)
    have h2 := Int.emod_lt_of_pos x hm
    unfold wrap64
    omega
  have h1 := md _ 4 (wrap_u n) (by decide) (by decide)
  have h2 := md _ 3 (wrap_u a) (by decide) (by decide)
  have hn : ∃ k : Nat, wrap64 ((IntKind.u64.wrap n).tmod 4) = k ∧ k < 4 := ⟨(IntKind.u64.wrap n % 4).toNat, by rw [h1]; omega, by omega⟩
  obtain ⟨k, hk, hk4⟩ := hn
  have ha : IntKind.u64.wrap a % 3 = 0 ∨ IntKind.u64.wrap a % 3 = 1 ∨ IntKind.u64.wrap a % 3 = 2 := by omega
  rcases ha with ha | ha | ha
  · exact limits_0 chk_none chk_made chk_twice chk_lim0 a n k hk hk4 (h2.trans ha) W hO
  · exact limits_1 chk_none chk_made chk_twice chk_lim1 a n k hk hk4 (h2.trans ha) W hO
  · exact limits_2 chk_none chk_made chk_twice chk_lim2 a n k hk hk4 (h2.trans ha) W hO
end Go.Proofs.YthdfmbmbjpmlaaaDoor.Rn
/- What the row's listed variable reads as, as a premise on the world: the words that are no names stand there. Conditions: the row lists gobo/gram.own. -/
set_option linter.unusedVariables false
namespace Go.Proofs.YthdfmbmbjpmlaaaDoor.Rn
open Go Go.RowKit Go.Shelf Go.Lib Go.Proofs.YthdfmbmbjpmlaaaDoorW.PrintWords Go.ChangeShapes Go.WideShapes Go.ChangeAt
theorem own : ownKnob Tryd.prog.godebug = none := by kernel_rfl
theorem laidOut : laidOutB Tryd.prog = true := by kernel_rfl
theorem own_of {W : World} (h : VarReads Tryd.prog W "gobo/gram.own" Rows.laid_gobo_gram_own) : OwnAt W := by
  obtain ⟨g, t, cs, fuel, p, hg, hty, hvar, hd⟩ := h
  obtain rfl := Option.some.inj ((show Tryd.prog.globalNamed "gobo/gram.own" = some 0 by kernel_rfl).symm.trans hg)
  obtain rfl := Option.some.inj ((show (Tryd.prog.globals[0]?).map (·.type) = some 76 by kernel_rfl).symm.trans hty)
  have hc : Tryd.prog.cellsOf 9 = 1 := by kernel_rfl
  refine ⟨rfl, by decide, fun _ => ⟨_, rfl, fun j s hj => ?_⟩⟩
  have hj6 : j < 6 := (List.getElem?_eq_some_iff.1 hj).1
  obtain ⟨fuel', d, q, hdi, he⟩ := array_elem Tryd.underlying76 hd j hj6
  rw [hc] at he
  obtain ⟨u, hu, hx, _⟩ := DataW.trod_string Tryd.underlying9 he
  have hd1 : d = .lit (.string u.data.toList) := congrArg Prod.fst hx
  have hus : u = s := by
    rw [hd1] at hdi
    have key : u.data.toList = s.data.toList := by
      match j, hj, hdi with
      | 0, hj, hdi => obtain rfl := Option.some.inj hj; simpa [ownL] using hdi.symm
      | 1, hj, hdi => obtain rfl := Option.some.inj hj; simpa [ownL] using hdi.symm
      | 2, hj, hdi => obtain rfl := Option.some.inj hj; simpa [ownL] using hdi.symm
      | 3, hj, hdi => obtain rfl := Option.some.inj hj; simpa [ownL] using hdi.symm
      | 4, hj, hdi => obtain rfl := Option.some.inj hj; simpa [ownL] using hdi.symm
      | 5, hj, hdi => obtain rfl := Option.some.inj hj; simpa [ownL] using hdi.symm
      | n + 6, hj, _ => simp [ownL] at hj
    exact text_ext (by rw [text_data, text_data]; exact key)
  refine ⟨[.string s], rfl, rfl, fun i v hv => ?_⟩
  have hi : i = 0 := by
    cases i with
    | zero => rfl
    | succ n => simp at hv
  subst hi
  have hv' : v = .string s := by simpa using hv.symm
  subst hv'
  have e0 := congrArg (·[0]?) hu
  simp only [List.getElem?_take, List.getElem?_drop] at e0
  show W.cell? ((⟨0, 0, none⟩ : Addr).add (j * 1 + 0)) = _
  rw [add_at, Nat.zero_add, Nat.add_zero, World.var?_cell hg hvar (j * 1), ← Array.getElem?_toList]
  simpa [hus] using e0
theorem tabs_of {W : World} (hL : laidMet Tryd.prog [("gobo/gram.own", Rows.laid_gobo_gram_own)] W) : OwnAt W := own_of (Lib.laidMet.reads hL (.head _))
end Go.Proofs.YthdfmbmbjpmlaaaDoor.Rn
