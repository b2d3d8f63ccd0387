/- texts of this claim, one behind the other: RpT, RpB, RnHa, RnK, GrK, GrC, GpC, GrN, GrG, GrW -/
import Derived.Test.YthdfmbmbjpmlaaaDoorProg
import Derived.Below
import Derived.Deep.Draws
import Derived.Deep.AppendLies
import Derived.Maps.AppendAt
import Derived.OwnWalk
import Derived.Laws.BytesArg
import Derived.Laws.MakeOwn
import Derived.Laws.OwnMore
import Derived.Deep.OwnRows
import Derived.Tactics
import Derived.Lib.ConvBytes
import Derived.Laws.Slices
import Derived.WalkKit
import Derived.KernelRfl
import Derived.RowKit3
import Derived.Deep.LoopGhost
import Derived.Deep.QuietTactic
import Derived.BigQuiet
import Derived.WideLaws
import Derived.Deep.DeepCutAuto
import Derived.Deep.CutBlock
import Derived.Deep.RegionHeld3
import Derived.Laws.Rows
import Derived.Lib.AppendStr
import Derived.ArgAppend
import Derived.Laws.IdiomCopy
import Derived.OrdersHeld
import Derived.Laws.BitsLemmas
import Derived.RowKit
import Derived.Test.YthdfmbmbjpmlaaaDoorWWords
import Derived.Test.YthdfmbmbjpmlaaaDoorWLast
import Derived.Test.YthdfmbmbjpmlaaaDoorWTab
import Derived.Test.YthdfmbmbjpmlaaaDoorWFour
import Derived.Test.YthdfmbmbjpmlaaaDoorWQPut
import Derived.Test.YthdfmbmbjpmlaaaDoorWApart
import Derived.Test.YthdfmbmbjpmlaaaDoorWArr
import Derived.Test.YthdfmbmbjpmlaaaDoorWZeros
import Derived.Test.YthdfmbmbjpmlaaaDoorWFoot
import Derived.Test.YthdfmbmbjpmlaaaDoorWKept
import Derived.Test.YthdfmbmbjpmlaaaDoorWShare
import Derived.Test.YthdfmbmbjpmlaaaDoorWN
import Derived.Test.YthdfmbmbjpmlaaaDoorWFootNe
import Derived.Test.YthdfmbmbjpmlaaaDoorWAt
import Derived.Test.YthdfmbmbjpmlaaaDoorWEqStruct
import Derived.Test.YthdfmbmbjpmlaaaDoorWRepsOne
import Derived.Test.YthdfmbmbjpmlaaaDoorWInv
import Derived.Test.YthdfmbmbjpmlaaaDoorWInvWords
import Derived.Test.YthdfmbmbjpmlaaaDoorWGuard
import Derived.Test.YthdfmbmbjpmlaaaDoorWNEv
import Derived.Test.YthdfmbmbjpmlaaaDoorWMore
import Derived.WalkSmall
import Derived.RangeFuncBox
namespace Go.Proofs.YthdfmbmbjpmlaaaDoor.Rn
open Go.RowKit Go.Proofs.YthdfmbmbjpmlaaaDoorW.PrintWords Go.Proofs.YthdfmbmbjpmlaaaDoorW.PrintLast Go.Proofs.YthdfmbmbjpmlaaaDoorW.PrintMore
attribute [local go_sem] max2_int min2_int max_two min_two max_three min_three max_four min_four   -- for this text's walks alone
set_option linter.unusedVariables false
set_option linter.unusedSimpArgs false



def errW : Option Int → Value
  | none => .nilIface
  | some c => .iface 0 (.int .i64 c)
theorem errW_none : errW none = .nilIface := rfl
theorem errW_some (c : Int) : errW (some c) = .iface 0 (.int .i64 c) := rfl

theorem info56 : (Tryd.prog.info? 56).map (fun i => (i.zero, i.size, i.bytes)) = some (some (.agg #[(.int .i32 0), (.int .i32 0)]), 2, 8) := by kernel_rfl
theorem info105 : (Tryd.prog.info? 105).map (fun i => (i.zero, i.size, i.bytes)) = some (some (.agg #[(.int .i64 0), (.int .i64 0)]), 2, 16) := by kernel_rfl
-- the values' own types
/-! #### struct type 56 -/
structure S56 where
  f0 : Int
  f1 : Int
def z56 : S56 := ⟨(0 : Int), (0 : Int)⟩
def k56 : Kd S56 := Kd.iso (Kd.pair (Kd.int .i32) (Kd.int .i32)) (fun x : S56 => (x.f0, x.f1))
theorem k56_open {w : World} {x : S56} {cs : List Value} (h : k56.K w x cs) : cs = [.int .i32 x.f0, .int .i32 x.f1] := by
  obtain ⟨_, _, rfl, rfl, rfl⟩ := h
  exact rfl
theorem k56_openM {w : World} {base : Nat} {ok : Nat → Prop} {x : S56} {cs : List Value} (h : k56.M w base ok x cs) : cs = [.int .i32 x.f0, .int .i32 x.f1] := by
  obtain ⟨_, _, rfl, rfl, rfl⟩ := h
  exact rfl
theorem k56_mk (w : World) (x : S56)  : k56.K w x [.int .i32 x.f0, .int .i32 x.f1] := ⟨[.int .i32 x.f0], [.int .i32 x.f1], rfl, rfl, rfl⟩
theorem k56_mkM (w : World) (base : Nat) (ok : Nat → Prop) (x : S56)  : k56.M w base ok x [.int .i32 x.f0, .int .i32 x.f1] := ⟨[.int .i32 x.f0], [.int .i32 x.f1], rfl, rfl, rfl⟩
theorem k56_mkF (W : World) (ok : Nat → Prop) (x : S56) : Kd.FK k56 W ok x [.int .i32 x.f0, .int .i32 x.f1] := fun W2 _ => k56_mk W2 x
def rd_T56 (xs : List S56) (i : Int) : S56 := xs.getD i.toNat z56
theorem at_T56 {w : World} {A : Option Addr} {n : Nat} {xs : List S56} (h : Kd.C k56 w A n xs) (i : Int) (h0 : 0 ≤ i) (h1 : i < n) : ∃ ad , A = some ad ∧ w.cell? (ad.add (i.toNat * 2)) = some (.int .i32 (rd_T56 xs i).f0) ∧ w.cell? ⟨(ad.add (i.toNat * 2)).block, (ad.add (i.toNat * 2)).off + 1, none⟩ = some (.int .i32 (rd_T56 xs i).f1) := by
  obtain ⟨ad, c, e, _, hK, hc0⟩ := Kd.C_get h z56 i h0 h1
  have hc : ∀ j u, c[j]? = some u → w.cell? (ad.add (i.toNat * 2 + j)) = some u := hc0
  obtain rfl := k56_open hK
  exact ⟨ad, e, hc 0 _ rfl, by rw [← add_field _ _ 1 (by omega)]; exact hc 1 _ rfl⟩

def rd_L3 (xs : List (List S56)) (i : Int) : (List S56) := xs.getD i.toNat ([] : List S56)
theorem at_L3 {w : World} {A : Option Addr} {n : Nat} {xs : List (List S56)} (h : Kd.C (Kd.slice 56 k56) w A n xs) (i : Int) (h0 : 0 ≤ i) (h1 : i < n) : ∃ ad A0 c0, A = some ad ∧ w.cell? (ad.add i.toNat) = some (.slice A0 (rd_L3 xs i).length c0) ∧ (rd_L3 xs i).length ≤ c0 ∧ k56.C w A0 (rd_L3 xs i).length (rd_L3 xs i) := by
  obtain ⟨ad, c, e, _, hK, hc0⟩ := Kd.C_get h ([] : List S56) i h0 h1
  have hc : ∀ j u, c[j]? = some u → w.cell? (ad.add (i.toNat * 1 + j)) = some u := hc0
  obtain ⟨A0, c0, rfl, l0, g0⟩ := hK
  exact ⟨ad, A0, c0, e, by have hq := hc 0 _ rfl; rwa [Nat.mul_one, Nat.add_zero] at hq, l0, g0⟩

/-! #### struct type 48, nested in itself -/
structure S48 where
  f0 : Int
  f1 : (List S56)
  f2 : (List S48)
def z48 : S48 := ⟨(0 : Int), ([] : List S56), ([] : List S48)⟩
def F48 (d : Kd S48) : Kd S48 := Kd.iso (Kd.pair (Kd.int .i64) (Kd.pair (Kd.slice 56 k56) (Kd.slice 48 d))) (fun x : S48 => (x.f0, x.f1, x.f2))
theorem mono48 : Kd.Mono F48 := Kd.mono_iso _ (Kd.mono_pair (Kd.mono_const _) (Kd.mono_pair (Kd.mono_const _) (Kd.mono_slice 48 Kd.mono_id)))
theorem sub48 : Kd.Sub F48 [48, 56] := Kd.sub_iso _ (Kd.sub_pair (Kd.sub_const _ (by decide)) (Kd.sub_pair (Kd.sub_const _ (by decide)) (Kd.sub_slice 48 (by decide) Kd.sub_id)))
theorem sz48 : ∀ n, (Kd.upto F48 3 [48, 56] n).sz = 3 := Kd.upto_sz (fun _ => rfl)
def k48 : Kd S48 := Kd.fix F48 3 [48, 56] sz48 (Kd.upto_E sub48)
theorem k48_open {w : World} {x : S48} {cs : List Value} (h : k48.K w x cs) : ∃ A1 c1 A2 c2, cs = [.int .i64 x.f0, .slice A1 x.f1.length c1, .slice A2 x.f2.length c2] ∧ x.f1.length ≤ c1 ∧ k56.C w A1 x.f1.length x.f1 ∧ x.f2.length ≤ c2 ∧ k48.C w A2 x.f2.length x.f2 := by
  obtain ⟨n, h⟩ := h
  cases n with
  | zero => exact h.elim
  | succ n =>
    obtain ⟨_, _, rfl, rfl, ⟨_, _, rfl, ⟨A1, c1, rfl, l1, g1⟩, ⟨A2, c2, rfl, l2, g2⟩⟩⟩ := h
    exact ⟨A1, c1, A2, c2, rfl, l1, g1, l2, Kd.fix_C g2⟩
theorem k48_openM {w : World} {base : Nat} {ok : Nat → Prop} {x : S48} {cs : List Value} (h : k48.M w base ok x cs) : ∃ v1 v2, cs = [.int .i64 x.f0, v1, v2] ∧ k56.R 56 w base ok v1 x.f1 ∧ k48.R 48 w base ok v2 x.f2 := by
  obtain ⟨n, h⟩ := h
  cases n with
  | zero => exact h.elim
  | succ n =>
    obtain ⟨_, _, rfl, rfl, ⟨_, _, rfl, ⟨v1, rfl, g1⟩, ⟨v2, rfl, g2⟩⟩⟩ := h
    exact ⟨v1, v2, rfl, g1, Kd.fix_R g2⟩
theorem k48_mk (w : World) (x : S48) {A1 : Option Addr} {c1 : Nat} (l1 : x.f1.length ≤ c1) (g1 : k56.C w A1 x.f1.length x.f1) {A2 : Option Addr} {c2 : Nat} (l2 : x.f2.length ≤ c2) (g2 : k48.C w A2 x.f2.length x.f2) : k48.K w x [.int .i64 x.f0, .slice A1 x.f1.length c1, .slice A2 x.f2.length c2] := by
  obtain ⟨n2, q2⟩ := Kd.fix_C_back mono48 g2
  have r2 := Kd.upto_C_le mono48 sz48 (show n2 ≤ n2 by omega) q2
  exact ⟨n2 + 1, ⟨[.int .i64 x.f0], [.slice A1 x.f1.length c1, .slice A2 x.f2.length c2], rfl, rfl, ⟨[.slice A1 x.f1.length c1], [.slice A2 x.f2.length c2], rfl, ⟨A1, c1, rfl, l1, g1⟩, ⟨A2, c2, rfl, l2, r2⟩⟩⟩⟩
theorem k48_mkM (w : World) (base : Nat) (ok : Nat → Prop) (x : S48) {v1 : Value} (g1 : k56.R 56 w base ok v1 x.f1) {v2 : Value} (g2 : k48.R 48 w base ok v2 x.f2) : k48.M w base ok x [.int .i64 x.f0, v1, v2] := by
  obtain ⟨n2, q2⟩ := Kd.fix_R_back mono48 g2
  have r2 := Kd.upto_R_le mono48 sz48 (show n2 ≤ n2 by omega) q2
  exact ⟨n2 + 1, ⟨[.int .i64 x.f0], [v1, v2], rfl, rfl, ⟨[v1], [v2], rfl, ⟨v1, rfl, g1⟩, ⟨v2, rfl, r2⟩⟩⟩⟩
theorem k48_openF {W : World} {ok : Nat → Prop} {x : S48} {cs : List Value} (h : Kd.FK k48 W ok x cs) : ∃ A1 c1 A2 c2, cs = [.int .i64 x.f0, .slice A1 x.f1.length c1, .slice A2 x.f2.length c2] ∧ x.f1.length ≤ c1 ∧ Kd.F k56 W ok A1 x.f1.length x.f1 ∧ x.f2.length ≤ c2 ∧ Kd.F k48 W ok A2 x.f2.length x.f2 := by
  obtain ⟨A1, c1, A2, c2, rfl, l1, _, l2, _⟩ := k48_open (Kd.FK_now h)
  exact ⟨A1, c1, A2, c2, rfl, l1, (fun W' hW => by obtain ⟨A1_, c1_, A2_, c2_, he, l1_, g1_, l2_, g2_⟩ := k48_open (h W' hW); injection (Option.some.inj (show some (Value.slice A1 x.f1.length c1) = some (Value.slice A1_ x.f1.length c1_) from congrArg (fun l => l[1]?) he)) with ha_ _ _; rw [ha_]; exact g1_), l2, (fun W' hW => by obtain ⟨A1_, c1_, A2_, c2_, he, l1_, g1_, l2_, g2_⟩ := k48_open (h W' hW); injection (Option.some.inj (show some (Value.slice A2 x.f2.length c2) = some (Value.slice A2_ x.f2.length c2_) from congrArg (fun l => l[2]?) he)) with ha_ _ _; rw [ha_]; exact g2_)⟩
theorem k48_mkF (W : World) (ok : Nat → Prop) (x : S48) {A1 : Option Addr} {c1 : Nat} (l1 : x.f1.length ≤ c1) (g1 : Kd.F k56 W ok A1 x.f1.length x.f1) {A2 : Option Addr} {c2 : Nat} (l2 : x.f2.length ≤ c2) (g2 : Kd.F k48 W ok A2 x.f2.length x.f2) : Kd.FK k48 W ok x [.int .i64 x.f0, .slice A1 x.f1.length c1, .slice A2 x.f2.length c2] := fun W2 hW => k48_mk W2 x l1 (g1 W2 hW) l2 (g2 W2 hW)
def rd_T48 (xs : List S48) (i : Int) : S48 := xs.getD i.toNat z48
theorem at_T48 {w : World} {A : Option Addr} {n : Nat} {xs : List S48} (h : Kd.C k48 w A n xs) (i : Int) (h0 : 0 ≤ i) (h1 : i < n) : ∃ ad A1 c1 A2 c2, A = some ad ∧ w.cell? (ad.add (i.toNat * 3)) = some (.int .i64 (rd_T48 xs i).f0) ∧ w.cell? ⟨(ad.add (i.toNat * 3)).block, (ad.add (i.toNat * 3)).off + 1, none⟩ = some (.slice A1 (rd_T48 xs i).f1.length c1) ∧ w.cell? ⟨(ad.add (i.toNat * 3)).block, (ad.add (i.toNat * 3)).off + 2, none⟩ = some (.slice A2 (rd_T48 xs i).f2.length c2) ∧ (rd_T48 xs i).f1.length ≤ c1 ∧ k56.C w A1 (rd_T48 xs i).f1.length (rd_T48 xs i).f1 ∧ (rd_T48 xs i).f2.length ≤ c2 ∧ k48.C w A2 (rd_T48 xs i).f2.length (rd_T48 xs i).f2 := by
  obtain ⟨ad, c, e, _, hK, hc0⟩ := Kd.C_get h z48 i h0 h1
  have hc : ∀ j u, c[j]? = some u → w.cell? (ad.add (i.toNat * 3 + j)) = some u := hc0
  obtain ⟨A1, c1, A2, c2, rfl, l1, g1, l2, g2⟩ := k48_open hK
  exact ⟨ad, A1, c1, A2, c2, e, hc 0 _ rfl, by rw [← add_field _ _ 1 (by omega)]; exact hc 1 _ rfl, by rw [← add_field _ _ 2 (by omega)]; exact hc 2 _ rfl, l1, g1, l2, g2⟩

def rd_L6 (xs : List (List ByteArray)) (i : Int) : (List ByteArray) := xs.getD i.toNat ([] : List ByteArray)
theorem at_L6 {w : World} {A : Option Addr} {n : Nat} {xs : List (List ByteArray)} (h : Kd.C (Kd.slice 9 Kd.string) w A n xs) (i : Int) (h0 : 0 ≤ i) (h1 : i < n) : ∃ ad A0 c0, A = some ad ∧ w.cell? (ad.add i.toNat) = some (.slice A0 (rd_L6 xs i).length c0) ∧ (rd_L6 xs i).length ≤ c0 ∧ Kd.string.C w A0 (rd_L6 xs i).length (rd_L6 xs i) := by
  obtain ⟨ad, c, e, _, hK, hc0⟩ := Kd.C_get h ([] : List ByteArray) i h0 h1
  have hc : ∀ j u, c[j]? = some u → w.cell? (ad.add (i.toNat * 1 + j)) = some u := hc0
  obtain ⟨A0, c0, rfl, l0, g0⟩ := hK
  exact ⟨ad, A0, c0, e, by have hq := hc 0 _ rfl; rwa [Nat.mul_one, Nat.add_zero] at hq, l0, g0⟩

/-! #### struct type 37, nested in itself -/
structure S37 where
  f0 : Int
  f1 : (List ByteArray)
  f2 : (List ByteArray)
  f3 : (List S37)
def z37 : S37 := ⟨(0 : Int), ([] : List ByteArray), ([] : List ByteArray), ([] : List S37)⟩
def F37 (d : Kd S37) : Kd S37 := Kd.iso (Kd.pair (Kd.int .i64) (Kd.pair (Kd.slice 9 Kd.string) (Kd.pair (Kd.slice 9 Kd.string) (Kd.slice 37 d)))) (fun x : S37 => (x.f0, x.f1, x.f2, x.f3))
theorem mono37 : Kd.Mono F37 := Kd.mono_iso _ (Kd.mono_pair (Kd.mono_const _) (Kd.mono_pair (Kd.mono_const _) (Kd.mono_pair (Kd.mono_const _) (Kd.mono_slice 37 Kd.mono_id))))
theorem sub37 : Kd.Sub F37 [9, 37] := Kd.sub_iso _ (Kd.sub_pair (Kd.sub_const _ (by decide)) (Kd.sub_pair (Kd.sub_const _ (by decide)) (Kd.sub_pair (Kd.sub_const _ (by decide)) (Kd.sub_slice 37 (by decide) Kd.sub_id))))
theorem sz37 : ∀ n, (Kd.upto F37 4 [9, 37] n).sz = 4 := Kd.upto_sz (fun _ => rfl)
def k37 : Kd S37 := Kd.fix F37 4 [9, 37] sz37 (Kd.upto_E sub37)
theorem k37_open {w : World} {x : S37} {cs : List Value} (h : k37.K w x cs) : ∃ A1 c1 A2 c2 A3 c3, cs = [.int .i64 x.f0, .slice A1 x.f1.length c1, .slice A2 x.f2.length c2, .slice A3 x.f3.length c3] ∧ x.f1.length ≤ c1 ∧ Kd.string.C w A1 x.f1.length x.f1 ∧ x.f2.length ≤ c2 ∧ Kd.string.C w A2 x.f2.length x.f2 ∧ x.f3.length ≤ c3 ∧ k37.C w A3 x.f3.length x.f3 := by
  obtain ⟨n, h⟩ := h
  cases n with
  | zero => exact h.elim
  | succ n =>
    obtain ⟨_, _, rfl, rfl, ⟨_, _, rfl, ⟨A1, c1, rfl, l1, g1⟩, ⟨_, _, rfl, ⟨A2, c2, rfl, l2, g2⟩, ⟨A3, c3, rfl, l3, g3⟩⟩⟩⟩ := h
    exact ⟨A1, c1, A2, c2, A3, c3, rfl, l1, g1, l2, g2, l3, Kd.fix_C g3⟩
theorem k37_openM {w : World} {base : Nat} {ok : Nat → Prop} {x : S37} {cs : List Value} (h : k37.M w base ok x cs) : ∃ v1 v2 v3, cs = [.int .i64 x.f0, v1, v2, v3] ∧ Kd.string.R 9 w base ok v1 x.f1 ∧ Kd.string.R 9 w base ok v2 x.f2 ∧ k37.R 37 w base ok v3 x.f3 := by
  obtain ⟨n, h⟩ := h
  cases n with
  | zero => exact h.elim
  | succ n =>
    obtain ⟨_, _, rfl, rfl, ⟨_, _, rfl, ⟨v1, rfl, g1⟩, ⟨_, _, rfl, ⟨v2, rfl, g2⟩, ⟨v3, rfl, g3⟩⟩⟩⟩ := h
    exact ⟨v1, v2, v3, rfl, g1, g2, Kd.fix_R g3⟩
theorem k37_mk (w : World) (x : S37) {A1 : Option Addr} {c1 : Nat} (l1 : x.f1.length ≤ c1) (g1 : Kd.string.C w A1 x.f1.length x.f1) {A2 : Option Addr} {c2 : Nat} (l2 : x.f2.length ≤ c2) (g2 : Kd.string.C w A2 x.f2.length x.f2) {A3 : Option Addr} {c3 : Nat} (l3 : x.f3.length ≤ c3) (g3 : k37.C w A3 x.f3.length x.f3) : k37.K w x [.int .i64 x.f0, .slice A1 x.f1.length c1, .slice A2 x.f2.length c2, .slice A3 x.f3.length c3] := by
  obtain ⟨n3, q3⟩ := Kd.fix_C_back mono37 g3
  have r3 := Kd.upto_C_le mono37 sz37 (show n3 ≤ n3 by omega) q3
  exact ⟨n3 + 1, ⟨[.int .i64 x.f0], [.slice A1 x.f1.length c1, .slice A2 x.f2.length c2, .slice A3 x.f3.length c3], rfl, rfl, ⟨[.slice A1 x.f1.length c1], [.slice A2 x.f2.length c2, .slice A3 x.f3.length c3], rfl, ⟨A1, c1, rfl, l1, g1⟩, ⟨[.slice A2 x.f2.length c2], [.slice A3 x.f3.length c3], rfl, ⟨A2, c2, rfl, l2, g2⟩, ⟨A3, c3, rfl, l3, r3⟩⟩⟩⟩⟩
theorem k37_mkM (w : World) (base : Nat) (ok : Nat → Prop) (x : S37) {v1 : Value} (g1 : Kd.string.R 9 w base ok v1 x.f1) {v2 : Value} (g2 : Kd.string.R 9 w base ok v2 x.f2) {v3 : Value} (g3 : k37.R 37 w base ok v3 x.f3) : k37.M w base ok x [.int .i64 x.f0, v1, v2, v3] := by
  obtain ⟨n3, q3⟩ := Kd.fix_R_back mono37 g3
  have r3 := Kd.upto_R_le mono37 sz37 (show n3 ≤ n3 by omega) q3
  exact ⟨n3 + 1, ⟨[.int .i64 x.f0], [v1, v2, v3], rfl, rfl, ⟨[v1], [v2, v3], rfl, ⟨v1, rfl, g1⟩, ⟨[v2], [v3], rfl, ⟨v2, rfl, g2⟩, ⟨v3, rfl, r3⟩⟩⟩⟩⟩
theorem k37_openF {W : World} {ok : Nat → Prop} {x : S37} {cs : List Value} (h : Kd.FK k37 W ok x cs) : ∃ A1 c1 A2 c2 A3 c3, cs = [.int .i64 x.f0, .slice A1 x.f1.length c1, .slice A2 x.f2.length c2, .slice A3 x.f3.length c3] ∧ x.f1.length ≤ c1 ∧ Kd.F Kd.string W ok A1 x.f1.length x.f1 ∧ x.f2.length ≤ c2 ∧ Kd.F Kd.string W ok A2 x.f2.length x.f2 ∧ x.f3.length ≤ c3 ∧ Kd.F k37 W ok A3 x.f3.length x.f3 := by
  obtain ⟨A1, c1, A2, c2, A3, c3, rfl, l1, _, l2, _, l3, _⟩ := k37_open (Kd.FK_now h)
  exact ⟨A1, c1, A2, c2, A3, c3, rfl, l1, (fun W' hW => by obtain ⟨A1_, c1_, A2_, c2_, A3_, c3_, he, l1_, g1_, l2_, g2_, l3_, g3_⟩ := k37_open (h W' hW); injection (Option.some.inj (show some (Value.slice A1 x.f1.length c1) = some (Value.slice A1_ x.f1.length c1_) from congrArg (fun l => l[1]?) he)) with ha_ _ _; rw [ha_]; exact g1_), l2, (fun W' hW => by obtain ⟨A1_, c1_, A2_, c2_, A3_, c3_, he, l1_, g1_, l2_, g2_, l3_, g3_⟩ := k37_open (h W' hW); injection (Option.some.inj (show some (Value.slice A2 x.f2.length c2) = some (Value.slice A2_ x.f2.length c2_) from congrArg (fun l => l[2]?) he)) with ha_ _ _; rw [ha_]; exact g2_), l3, (fun W' hW => by obtain ⟨A1_, c1_, A2_, c2_, A3_, c3_, he, l1_, g1_, l2_, g2_, l3_, g3_⟩ := k37_open (h W' hW); injection (Option.some.inj (show some (Value.slice A3 x.f3.length c3) = some (Value.slice A3_ x.f3.length c3_) from congrArg (fun l => l[3]?) he)) with ha_ _ _; rw [ha_]; exact g3_)⟩
theorem k37_mkF (W : World) (ok : Nat → Prop) (x : S37) {A1 : Option Addr} {c1 : Nat} (l1 : x.f1.length ≤ c1) (g1 : Kd.F Kd.string W ok A1 x.f1.length x.f1) {A2 : Option Addr} {c2 : Nat} (l2 : x.f2.length ≤ c2) (g2 : Kd.F Kd.string W ok A2 x.f2.length x.f2) {A3 : Option Addr} {c3 : Nat} (l3 : x.f3.length ≤ c3) (g3 : Kd.F k37 W ok A3 x.f3.length x.f3) : Kd.FK k37 W ok x [.int .i64 x.f0, .slice A1 x.f1.length c1, .slice A2 x.f2.length c2, .slice A3 x.f3.length c3] := fun W2 hW => k37_mk W2 x l1 (g1 W2 hW) l2 (g2 W2 hW) l3 (g3 W2 hW)
def rd_T37 (xs : List S37) (i : Int) : S37 := xs.getD i.toNat z37
theorem at_T37 {w : World} {A : Option Addr} {n : Nat} {xs : List S37} (h : Kd.C k37 w A n xs) (i : Int) (h0 : 0 ≤ i) (h1 : i < n) : ∃ ad A1 c1 A2 c2 A3 c3, A = some ad ∧ w.cell? (ad.add (i.toNat * 4)) = some (.int .i64 (rd_T37 xs i).f0) ∧ w.cell? ⟨(ad.add (i.toNat * 4)).block, (ad.add (i.toNat * 4)).off + 1, none⟩ = some (.slice A1 (rd_T37 xs i).f1.length c1) ∧ w.cell? ⟨(ad.add (i.toNat * 4)).block, (ad.add (i.toNat * 4)).off + 2, none⟩ = some (.slice A2 (rd_T37 xs i).f2.length c2) ∧ w.cell? ⟨(ad.add (i.toNat * 4)).block, (ad.add (i.toNat * 4)).off + 3, none⟩ = some (.slice A3 (rd_T37 xs i).f3.length c3) ∧ (rd_T37 xs i).f1.length ≤ c1 ∧ Kd.string.C w A1 (rd_T37 xs i).f1.length (rd_T37 xs i).f1 ∧ (rd_T37 xs i).f2.length ≤ c2 ∧ Kd.string.C w A2 (rd_T37 xs i).f2.length (rd_T37 xs i).f2 ∧ (rd_T37 xs i).f3.length ≤ c3 ∧ k37.C w A3 (rd_T37 xs i).f3.length (rd_T37 xs i).f3 := by
  obtain ⟨ad, c, e, _, hK, hc0⟩ := Kd.C_get h z37 i h0 h1
  have hc : ∀ j u, c[j]? = some u → w.cell? (ad.add (i.toNat * 4 + j)) = some u := hc0
  obtain ⟨A1, c1, A2, c2, A3, c3, rfl, l1, g1, l2, g2, l3, g3⟩ := k37_open hK
  exact ⟨ad, A1, c1, A2, c2, A3, c3, e, hc 0 _ rfl, by rw [← add_field _ _ 1 (by omega)]; exact hc 1 _ rfl, by rw [← add_field _ _ 2 (by omega)]; exact hc 2 _ rfl, by rw [← add_field _ _ 3 (by omega)]; exact hc 3 _ rfl, l1, g1, l2, g2, l3, g3⟩

def rd_L8 (xs : List (List Int)) (i : Int) : (List Int) := xs.getD i.toNat ([] : List Int)
theorem at_L8 {w : World} {A : Option Addr} {n : Nat} {xs : List (List Int)} (h : Kd.C (Kd.slice 3 (Kd.int .i64)) w A n xs) (i : Int) (h0 : 0 ≤ i) (h1 : i < n) : ∃ ad A0 c0, A = some ad ∧ w.cell? (ad.add i.toNat) = some (.slice A0 (rd_L8 xs i).length c0) ∧ (rd_L8 xs i).length ≤ c0 ∧ (Kd.int .i64).C w A0 (rd_L8 xs i).length (rd_L8 xs i) := by
  obtain ⟨ad, c, e, _, hK, hc0⟩ := Kd.C_get h ([] : List Int) i h0 h1
  have hc : ∀ j u, c[j]? = some u → w.cell? (ad.add (i.toNat * 1 + j)) = some u := hc0
  obtain ⟨A0, c0, rfl, l0, g0⟩ := hK
  exact ⟨ad, A0, c0, e, by have hq := hc 0 _ rfl; rwa [Nat.mul_one, Nat.add_zero] at hq, l0, g0⟩

/-! #### struct type 50 -/
structure S50 where
  f0 : ByteArray
  f1 : Int
  f2 : Int
  f3 : S48
def z50 : S50 := ⟨(⟨#[]⟩ : ByteArray), (0 : Int), (0 : Int), z48⟩
def k50 : Kd S50 := Kd.iso (Kd.pair Kd.string (Kd.pair (Kd.int .i64) (Kd.pair (Kd.int .i64) k48))) (fun x : S50 => (x.f0, x.f1, x.f2, x.f3))
theorem k50_open {w : World} {x : S50} {cs : List Value} (h : k50.K w x cs) : ∃ A4 c4 A5 c5, cs = [.string x.f0, .int .i64 x.f1, .int .i64 x.f2, .int .i64 x.f3.f0, .slice A4 x.f3.f1.length c4, .slice A5 x.f3.f2.length c5] ∧ x.f3.f1.length ≤ c4 ∧ k56.C w A4 x.f3.f1.length x.f3.f1 ∧ x.f3.f2.length ≤ c5 ∧ k48.C w A5 x.f3.f2.length x.f3.f2 := by
  obtain ⟨_, _, rfl, rfl, ⟨_, _, rfl, rfl, ⟨_, _, rfl, rfl, s3⟩⟩⟩ := h
  obtain ⟨A4, c4, A5, c5, rfl, l4, g4, l5, g5⟩ := k48_open s3
  exact ⟨A4, c4, A5, c5, rfl, l4, g4, l5, g5⟩
theorem k50_openM {w : World} {base : Nat} {ok : Nat → Prop} {x : S50} {cs : List Value} (h : k50.M w base ok x cs) : ∃ v4 v5, cs = [.string x.f0, .int .i64 x.f1, .int .i64 x.f2, .int .i64 x.f3.f0, v4, v5] ∧ k56.R 56 w base ok v4 x.f3.f1 ∧ k48.R 48 w base ok v5 x.f3.f2 := by
  obtain ⟨_, _, rfl, rfl, ⟨_, _, rfl, rfl, ⟨_, _, rfl, rfl, s3⟩⟩⟩ := h
  obtain ⟨v4, v5, rfl, g4, g5⟩ := k48_openM s3
  exact ⟨v4, v5, rfl, g4, g5⟩
theorem k50_mk (w : World) (x : S50) {A4 : Option Addr} {c4 : Nat} (l4 : x.f3.f1.length ≤ c4) (g4 : k56.C w A4 x.f3.f1.length x.f3.f1) {A5 : Option Addr} {c5 : Nat} (l5 : x.f3.f2.length ≤ c5) (g5 : k48.C w A5 x.f3.f2.length x.f3.f2) : k50.K w x [.string x.f0, .int .i64 x.f1, .int .i64 x.f2, .int .i64 x.f3.f0, .slice A4 x.f3.f1.length c4, .slice A5 x.f3.f2.length c5] := ⟨[.string x.f0], [.int .i64 x.f1, .int .i64 x.f2, .int .i64 x.f3.f0, .slice A4 x.f3.f1.length c4, .slice A5 x.f3.f2.length c5], rfl, rfl, ⟨[.int .i64 x.f1], [.int .i64 x.f2, .int .i64 x.f3.f0, .slice A4 x.f3.f1.length c4, .slice A5 x.f3.f2.length c5], rfl, rfl, ⟨[.int .i64 x.f2], [.int .i64 x.f3.f0, .slice A4 x.f3.f1.length c4, .slice A5 x.f3.f2.length c5], rfl, rfl, (k48_mk w x.f3 l4 g4 l5 g5)⟩⟩⟩
theorem k50_mkM (w : World) (base : Nat) (ok : Nat → Prop) (x : S50) {v4 : Value} (g4 : k56.R 56 w base ok v4 x.f3.f1) {v5 : Value} (g5 : k48.R 48 w base ok v5 x.f3.f2) : k50.M w base ok x [.string x.f0, .int .i64 x.f1, .int .i64 x.f2, .int .i64 x.f3.f0, v4, v5] := ⟨[.string x.f0], [.int .i64 x.f1, .int .i64 x.f2, .int .i64 x.f3.f0, v4, v5], rfl, rfl, ⟨[.int .i64 x.f1], [.int .i64 x.f2, .int .i64 x.f3.f0, v4, v5], rfl, rfl, ⟨[.int .i64 x.f2], [.int .i64 x.f3.f0, v4, v5], rfl, rfl, (k48_mkM w base ok x.f3 g4 g5)⟩⟩⟩
theorem k50_openF {W : World} {ok : Nat → Prop} {x : S50} {cs : List Value} (h : Kd.FK k50 W ok x cs) : ∃ A4 c4 A5 c5, cs = [.string x.f0, .int .i64 x.f1, .int .i64 x.f2, .int .i64 x.f3.f0, .slice A4 x.f3.f1.length c4, .slice A5 x.f3.f2.length c5] ∧ x.f3.f1.length ≤ c4 ∧ Kd.F k56 W ok A4 x.f3.f1.length x.f3.f1 ∧ x.f3.f2.length ≤ c5 ∧ Kd.F k48 W ok A5 x.f3.f2.length x.f3.f2 := by
  obtain ⟨A4, c4, A5, c5, rfl, l4, _, l5, _⟩ := k50_open (Kd.FK_now h)
  exact ⟨A4, c4, A5, c5, rfl, l4, (fun W' hW => by obtain ⟨A4_, c4_, A5_, c5_, he, l4_, g4_, l5_, g5_⟩ := k50_open (h W' hW); injection (Option.some.inj (show some (Value.slice A4 x.f3.f1.length c4) = some (Value.slice A4_ x.f3.f1.length c4_) from congrArg (fun l => l[4]?) he)) with ha_ _ _; rw [ha_]; exact g4_), l5, (fun W' hW => by obtain ⟨A4_, c4_, A5_, c5_, he, l4_, g4_, l5_, g5_⟩ := k50_open (h W' hW); injection (Option.some.inj (show some (Value.slice A5 x.f3.f2.length c5) = some (Value.slice A5_ x.f3.f2.length c5_) from congrArg (fun l => l[5]?) he)) with ha_ _ _; rw [ha_]; exact g5_)⟩
theorem k50_mkF (W : World) (ok : Nat → Prop) (x : S50) {A4 : Option Addr} {c4 : Nat} (l4 : x.f3.f1.length ≤ c4) (g4 : Kd.F k56 W ok A4 x.f3.f1.length x.f3.f1) {A5 : Option Addr} {c5 : Nat} (l5 : x.f3.f2.length ≤ c5) (g5 : Kd.F k48 W ok A5 x.f3.f2.length x.f3.f2) : Kd.FK k50 W ok x [.string x.f0, .int .i64 x.f1, .int .i64 x.f2, .int .i64 x.f3.f0, .slice A4 x.f3.f1.length c4, .slice A5 x.f3.f2.length c5] := fun W2 hW => k50_mk W2 x l4 (g4 W2 hW) l5 (g5 W2 hW)
def rd_T50 (xs : List S50) (i : Int) : S50 := xs.getD i.toNat z50
theorem at_T50 {w : World} {A : Option Addr} {n : Nat} {xs : List S50} (h : Kd.C k50 w A n xs) (i : Int) (h0 : 0 ≤ i) (h1 : i < n) : ∃ ad A4 c4 A5 c5, A = some ad ∧ w.cell? (ad.add (i.toNat * 6)) = some (.string (rd_T50 xs i).f0) ∧ w.cell? ⟨(ad.add (i.toNat * 6)).block, (ad.add (i.toNat * 6)).off + 1, none⟩ = some (.int .i64 (rd_T50 xs i).f1) ∧ w.cell? ⟨(ad.add (i.toNat * 6)).block, (ad.add (i.toNat * 6)).off + 2, none⟩ = some (.int .i64 (rd_T50 xs i).f2) ∧ w.cell? ⟨(ad.add (i.toNat * 6)).block, (ad.add (i.toNat * 6)).off + 3, none⟩ = some (.int .i64 (rd_T50 xs i).f3.f0) ∧ w.cell? ⟨(ad.add (i.toNat * 6)).block, (ad.add (i.toNat * 6)).off + 4, none⟩ = some (.slice A4 (rd_T50 xs i).f3.f1.length c4) ∧ w.cell? ⟨(ad.add (i.toNat * 6)).block, (ad.add (i.toNat * 6)).off + 5, none⟩ = some (.slice A5 (rd_T50 xs i).f3.f2.length c5) ∧ (rd_T50 xs i).f3.f1.length ≤ c4 ∧ k56.C w A4 (rd_T50 xs i).f3.f1.length (rd_T50 xs i).f3.f1 ∧ (rd_T50 xs i).f3.f2.length ≤ c5 ∧ k48.C w A5 (rd_T50 xs i).f3.f2.length (rd_T50 xs i).f3.f2 := by
  obtain ⟨ad, c, e, _, hK, hc0⟩ := Kd.C_get h z50 i h0 h1
  have hc : ∀ j u, c[j]? = some u → w.cell? (ad.add (i.toNat * 6 + j)) = some u := hc0
  obtain ⟨A4, c4, A5, c5, rfl, l4, g4, l5, g5⟩ := k50_open hK
  exact ⟨ad, A4, c4, A5, c5, e, hc 0 _ rfl, by rw [← add_field _ _ 1 (by omega)]; exact hc 1 _ rfl, by rw [← add_field _ _ 2 (by omega)]; exact hc 2 _ rfl, by rw [← add_field _ _ 3 (by omega)]; exact hc 3 _ rfl, by rw [← add_field _ _ 4 (by omega)]; exact hc 4 _ rfl, by rw [← add_field _ _ 5 (by omega)]; exact hc 5 _ rfl, l4, g4, l5, g5⟩

/-! #### struct type 39 -/
structure S39 where
  f0 : (List ByteArray)
  f1 : S37
def z39 : S39 := ⟨([] : List ByteArray), z37⟩
def k39 : Kd S39 := Kd.iso (Kd.pair (Kd.slice 9 Kd.string) k37) (fun x : S39 => (x.f0, x.f1))
theorem k39_open {w : World} {x : S39} {cs : List Value} (h : k39.K w x cs) : ∃ A0 c0 A2 c2 A3 c3 A4 c4, cs = [.slice A0 x.f0.length c0, .int .i64 x.f1.f0, .slice A2 x.f1.f1.length c2, .slice A3 x.f1.f2.length c3, .slice A4 x.f1.f3.length c4] ∧ x.f0.length ≤ c0 ∧ Kd.string.C w A0 x.f0.length x.f0 ∧ x.f1.f1.length ≤ c2 ∧ Kd.string.C w A2 x.f1.f1.length x.f1.f1 ∧ x.f1.f2.length ≤ c3 ∧ Kd.string.C w A3 x.f1.f2.length x.f1.f2 ∧ x.f1.f3.length ≤ c4 ∧ k37.C w A4 x.f1.f3.length x.f1.f3 := by
  obtain ⟨_, _, rfl, ⟨A0, c0, rfl, l0, g0⟩, s1⟩ := h
  obtain ⟨A2, c2, A3, c3, A4, c4, rfl, l2, g2, l3, g3, l4, g4⟩ := k37_open s1
  exact ⟨A0, c0, A2, c2, A3, c3, A4, c4, rfl, l0, g0, l2, g2, l3, g3, l4, g4⟩
theorem k39_openM {w : World} {base : Nat} {ok : Nat → Prop} {x : S39} {cs : List Value} (h : k39.M w base ok x cs) : ∃ v0 v2 v3 v4, cs = [v0, .int .i64 x.f1.f0, v2, v3, v4] ∧ Kd.string.R 9 w base ok v0 x.f0 ∧ Kd.string.R 9 w base ok v2 x.f1.f1 ∧ Kd.string.R 9 w base ok v3 x.f1.f2 ∧ k37.R 37 w base ok v4 x.f1.f3 := by
  obtain ⟨_, _, rfl, ⟨v0, rfl, g0⟩, s1⟩ := h
  obtain ⟨v2, v3, v4, rfl, g2, g3, g4⟩ := k37_openM s1
  exact ⟨v0, v2, v3, v4, rfl, g0, g2, g3, g4⟩
theorem k39_mk (w : World) (x : S39) {A0 : Option Addr} {c0 : Nat} (l0 : x.f0.length ≤ c0) (g0 : Kd.string.C w A0 x.f0.length x.f0) {A2 : Option Addr} {c2 : Nat} (l2 : x.f1.f1.length ≤ c2) (g2 : Kd.string.C w A2 x.f1.f1.length x.f1.f1) {A3 : Option Addr} {c3 : Nat} (l3 : x.f1.f2.length ≤ c3) (g3 : Kd.string.C w A3 x.f1.f2.length x.f1.f2) {A4 : Option Addr} {c4 : Nat} (l4 : x.f1.f3.length ≤ c4) (g4 : k37.C w A4 x.f1.f3.length x.f1.f3) : k39.K w x [.slice A0 x.f0.length c0, .int .i64 x.f1.f0, .slice A2 x.f1.f1.length c2, .slice A3 x.f1.f2.length c3, .slice A4 x.f1.f3.length c4] := ⟨[.slice A0 x.f0.length c0], [.int .i64 x.f1.f0, .slice A2 x.f1.f1.length c2, .slice A3 x.f1.f2.length c3, .slice A4 x.f1.f3.length c4], rfl, ⟨A0, c0, rfl, l0, g0⟩, (k37_mk w x.f1 l2 g2 l3 g3 l4 g4)⟩
theorem k39_mkM (w : World) (base : Nat) (ok : Nat → Prop) (x : S39) {v0 : Value} (g0 : Kd.string.R 9 w base ok v0 x.f0) {v2 : Value} (g2 : Kd.string.R 9 w base ok v2 x.f1.f1) {v3 : Value} (g3 : Kd.string.R 9 w base ok v3 x.f1.f2) {v4 : Value} (g4 : k37.R 37 w base ok v4 x.f1.f3) : k39.M w base ok x [v0, .int .i64 x.f1.f0, v2, v3, v4] := ⟨[v0], [.int .i64 x.f1.f0, v2, v3, v4], rfl, ⟨v0, rfl, g0⟩, (k37_mkM w base ok x.f1 g2 g3 g4)⟩
theorem k39_openF {W : World} {ok : Nat → Prop} {x : S39} {cs : List Value} (h : Kd.FK k39 W ok x cs) : ∃ A0 c0 A2 c2 A3 c3 A4 c4, cs = [.slice A0 x.f0.length c0, .int .i64 x.f1.f0, .slice A2 x.f1.f1.length c2, .slice A3 x.f1.f2.length c3, .slice A4 x.f1.f3.length c4] ∧ x.f0.length ≤ c0 ∧ Kd.F Kd.string W ok A0 x.f0.length x.f0 ∧ x.f1.f1.length ≤ c2 ∧ Kd.F Kd.string W ok A2 x.f1.f1.length x.f1.f1 ∧ x.f1.f2.length ≤ c3 ∧ Kd.F Kd.string W ok A3 x.f1.f2.length x.f1.f2 ∧ x.f1.f3.length ≤ c4 ∧ Kd.F k37 W ok A4 x.f1.f3.length x.f1.f3 := by
  obtain ⟨A0, c0, A2, c2, A3, c3, A4, c4, rfl, l0, _, l2, _, l3, _, l4, _⟩ := k39_open (Kd.FK_now h)
  exact ⟨A0, c0, A2, c2, A3, c3, A4, c4, rfl, l0, (fun W' hW => by obtain ⟨A0_, c0_, A2_, c2_, A3_, c3_, A4_, c4_, he, l0_, g0_, l2_, g2_, l3_, g3_, l4_, g4_⟩ := k39_open (h W' hW); injection (Option.some.inj (show some (Value.slice A0 x.f0.length c0) = some (Value.slice A0_ x.f0.length c0_) from congrArg (fun l => l[0]?) he)) with ha_ _ _; rw [ha_]; exact g0_), l2, (fun W' hW => by obtain ⟨A0_, c0_, A2_, c2_, A3_, c3_, A4_, c4_, he, l0_, g0_, l2_, g2_, l3_, g3_, l4_, g4_⟩ := k39_open (h W' hW); injection (Option.some.inj (show some (Value.slice A2 x.f1.f1.length c2) = some (Value.slice A2_ x.f1.f1.length c2_) from congrArg (fun l => l[2]?) he)) with ha_ _ _; rw [ha_]; exact g2_), l3, (fun W' hW => by obtain ⟨A0_, c0_, A2_, c2_, A3_, c3_, A4_, c4_, he, l0_, g0_, l2_, g2_, l3_, g3_, l4_, g4_⟩ := k39_open (h W' hW); injection (Option.some.inj (show some (Value.slice A3 x.f1.f2.length c3) = some (Value.slice A3_ x.f1.f2.length c3_) from congrArg (fun l => l[3]?) he)) with ha_ _ _; rw [ha_]; exact g3_), l4, (fun W' hW => by obtain ⟨A0_, c0_, A2_, c2_, A3_, c3_, A4_, c4_, he, l0_, g0_, l2_, g2_, l3_, g3_, l4_, g4_⟩ := k39_open (h W' hW); injection (Option.some.inj (show some (Value.slice A4 x.f1.f3.length c4) = some (Value.slice A4_ x.f1.f3.length c4_) from congrArg (fun l => l[4]?) he)) with ha_ _ _; rw [ha_]; exact g4_)⟩
theorem k39_mkF (W : World) (ok : Nat → Prop) (x : S39) {A0 : Option Addr} {c0 : Nat} (l0 : x.f0.length ≤ c0) (g0 : Kd.F Kd.string W ok A0 x.f0.length x.f0) {A2 : Option Addr} {c2 : Nat} (l2 : x.f1.f1.length ≤ c2) (g2 : Kd.F Kd.string W ok A2 x.f1.f1.length x.f1.f1) {A3 : Option Addr} {c3 : Nat} (l3 : x.f1.f2.length ≤ c3) (g3 : Kd.F Kd.string W ok A3 x.f1.f2.length x.f1.f2) {A4 : Option Addr} {c4 : Nat} (l4 : x.f1.f3.length ≤ c4) (g4 : Kd.F k37 W ok A4 x.f1.f3.length x.f1.f3) : Kd.FK k39 W ok x [.slice A0 x.f0.length c0, .int .i64 x.f1.f0, .slice A2 x.f1.f1.length c2, .slice A3 x.f1.f2.length c3, .slice A4 x.f1.f3.length c4] := fun W2 hW => k39_mk W2 x l0 (g0 W2 hW) l2 (g2 W2 hW) l3 (g3 W2 hW) l4 (g4 W2 hW)
def rd_T39 (xs : List S39) (i : Int) : S39 := xs.getD i.toNat z39
theorem at_T39 {w : World} {A : Option Addr} {n : Nat} {xs : List S39} (h : Kd.C k39 w A n xs) (i : Int) (h0 : 0 ≤ i) (h1 : i < n) : ∃ ad A0 c0 A2 c2 A3 c3 A4 c4, A = some ad ∧ w.cell? (ad.add (i.toNat * 5)) = some (.slice A0 (rd_T39 xs i).f0.length c0) ∧ w.cell? ⟨(ad.add (i.toNat * 5)).block, (ad.add (i.toNat * 5)).off + 1, none⟩ = some (.int .i64 (rd_T39 xs i).f1.f0) ∧ w.cell? ⟨(ad.add (i.toNat * 5)).block, (ad.add (i.toNat * 5)).off + 2, none⟩ = some (.slice A2 (rd_T39 xs i).f1.f1.length c2) ∧ w.cell? ⟨(ad.add (i.toNat * 5)).block, (ad.add (i.toNat * 5)).off + 3, none⟩ = some (.slice A3 (rd_T39 xs i).f1.f2.length c3) ∧ w.cell? ⟨(ad.add (i.toNat * 5)).block, (ad.add (i.toNat * 5)).off + 4, none⟩ = some (.slice A4 (rd_T39 xs i).f1.f3.length c4) ∧ (rd_T39 xs i).f0.length ≤ c0 ∧ Kd.string.C w A0 (rd_T39 xs i).f0.length (rd_T39 xs i).f0 ∧ (rd_T39 xs i).f1.f1.length ≤ c2 ∧ Kd.string.C w A2 (rd_T39 xs i).f1.f1.length (rd_T39 xs i).f1.f1 ∧ (rd_T39 xs i).f1.f2.length ≤ c3 ∧ Kd.string.C w A3 (rd_T39 xs i).f1.f2.length (rd_T39 xs i).f1.f2 ∧ (rd_T39 xs i).f1.f3.length ≤ c4 ∧ k37.C w A4 (rd_T39 xs i).f1.f3.length (rd_T39 xs i).f1.f3 := by
  obtain ⟨ad, c, e, _, hK, hc0⟩ := Kd.C_get h z39 i h0 h1
  have hc : ∀ j u, c[j]? = some u → w.cell? (ad.add (i.toNat * 5 + j)) = some u := hc0
  obtain ⟨A0, c0, A2, c2, A3, c3, A4, c4, rfl, l0, g0, l2, g2, l3, g3, l4, g4⟩ := k39_open hK
  exact ⟨ad, A0, c0, A2, c2, A3, c3, A4, c4, e, hc 0 _ rfl, by rw [← add_field _ _ 1 (by omega)]; exact hc 1 _ rfl, by rw [← add_field _ _ 2 (by omega)]; exact hc 2 _ rfl, by rw [← add_field _ _ 3 (by omega)]; exact hc 3 _ rfl, by rw [← add_field _ _ 4 (by omega)]; exact hc 4 _ rfl, l0, g0, l2, g2, l3, g3, l4, g4⟩

def rd_L12 (xs : List (List S39)) (i : Int) : (List S39) := xs.getD i.toNat ([] : List S39)
theorem at_L12 {w : World} {A : Option Addr} {n : Nat} {xs : List (List S39)} (h : Kd.C (Kd.slice 39 k39) w A n xs) (i : Int) (h0 : 0 ≤ i) (h1 : i < n) : ∃ ad A0 c0, A = some ad ∧ w.cell? (ad.add i.toNat) = some (.slice A0 (rd_L12 xs i).length c0) ∧ (rd_L12 xs i).length ≤ c0 ∧ k39.C w A0 (rd_L12 xs i).length (rd_L12 xs i) := by
  obtain ⟨ad, c, e, _, hK, hc0⟩ := Kd.C_get h ([] : List S39) i h0 h1
  have hc : ∀ j u, c[j]? = some u → w.cell? (ad.add (i.toNat * 1 + j)) = some u := hc0
  obtain ⟨A0, c0, rfl, l0, g0⟩ := hK
  exact ⟨ad, A0, c0, e, by have hq := hc 0 _ rfl; rwa [Nat.mul_one, Nat.add_zero] at hq, l0, g0⟩

/-! #### struct type 32 -/
structure S32 where
  f0 : Int
  f1 : Bool
  f2 : (List S39)
def z32 : S32 := ⟨(0 : Int), false, ([] : List S39)⟩
def k32 : Kd S32 := Kd.iso (Kd.pair (Kd.int .i64) (Kd.pair Kd.bool (Kd.slice 39 k39))) (fun x : S32 => (x.f0, x.f1, x.f2))
theorem k32_open {w : World} {x : S32} {cs : List Value} (h : k32.K w x cs) : ∃ A2 c2, cs = [.int .i64 x.f0, .bool x.f1, .slice A2 x.f2.length c2] ∧ x.f2.length ≤ c2 ∧ k39.C w A2 x.f2.length x.f2 := by
  obtain ⟨_, _, rfl, rfl, ⟨_, _, rfl, rfl, ⟨A2, c2, rfl, l2, g2⟩⟩⟩ := h
  exact ⟨A2, c2, rfl, l2, g2⟩
theorem k32_openM {w : World} {base : Nat} {ok : Nat → Prop} {x : S32} {cs : List Value} (h : k32.M w base ok x cs) : ∃ v2, cs = [.int .i64 x.f0, .bool x.f1, v2] ∧ k39.R 39 w base ok v2 x.f2 := by
  obtain ⟨_, _, rfl, rfl, ⟨_, _, rfl, rfl, ⟨v2, rfl, g2⟩⟩⟩ := h
  exact ⟨v2, rfl, g2⟩
theorem k32_mk (w : World) (x : S32) {A2 : Option Addr} {c2 : Nat} (l2 : x.f2.length ≤ c2) (g2 : k39.C w A2 x.f2.length x.f2) : k32.K w x [.int .i64 x.f0, .bool x.f1, .slice A2 x.f2.length c2] := ⟨[.int .i64 x.f0], [.bool x.f1, .slice A2 x.f2.length c2], rfl, rfl, ⟨[.bool x.f1], [.slice A2 x.f2.length c2], rfl, rfl, ⟨A2, c2, rfl, l2, g2⟩⟩⟩
theorem k32_mkM (w : World) (base : Nat) (ok : Nat → Prop) (x : S32) {v2 : Value} (g2 : k39.R 39 w base ok v2 x.f2) : k32.M w base ok x [.int .i64 x.f0, .bool x.f1, v2] := ⟨[.int .i64 x.f0], [.bool x.f1, v2], rfl, rfl, ⟨[.bool x.f1], [v2], rfl, rfl, ⟨v2, rfl, g2⟩⟩⟩
theorem k32_openF {W : World} {ok : Nat → Prop} {x : S32} {cs : List Value} (h : Kd.FK k32 W ok x cs) : ∃ A2 c2, cs = [.int .i64 x.f0, .bool x.f1, .slice A2 x.f2.length c2] ∧ x.f2.length ≤ c2 ∧ Kd.F k39 W ok A2 x.f2.length x.f2 := by
  obtain ⟨A2, c2, rfl, l2, _⟩ := k32_open (Kd.FK_now h)
  exact ⟨A2, c2, rfl, l2, (fun W' hW => by obtain ⟨A2_, c2_, he, l2_, g2_⟩ := k32_open (h W' hW); injection (Option.some.inj (show some (Value.slice A2 x.f2.length c2) = some (Value.slice A2_ x.f2.length c2_) from congrArg (fun l => l[2]?) he)) with ha_ _ _; rw [ha_]; exact g2_)⟩
theorem k32_mkF (W : World) (ok : Nat → Prop) (x : S32) {A2 : Option Addr} {c2 : Nat} (l2 : x.f2.length ≤ c2) (g2 : Kd.F k39 W ok A2 x.f2.length x.f2) : Kd.FK k32 W ok x [.int .i64 x.f0, .bool x.f1, .slice A2 x.f2.length c2] := fun W2 hW => k32_mk W2 x l2 (g2 W2 hW)
def rd_T32 (xs : List S32) (i : Int) : S32 := xs.getD i.toNat z32
theorem at_T32 {w : World} {A : Option Addr} {n : Nat} {xs : List S32} (h : Kd.C k32 w A n xs) (i : Int) (h0 : 0 ≤ i) (h1 : i < n) : ∃ ad A2 c2, A = some ad ∧ w.cell? (ad.add (i.toNat * 3)) = some (.int .i64 (rd_T32 xs i).f0) ∧ w.cell? ⟨(ad.add (i.toNat * 3)).block, (ad.add (i.toNat * 3)).off + 1, none⟩ = some (.bool (rd_T32 xs i).f1) ∧ w.cell? ⟨(ad.add (i.toNat * 3)).block, (ad.add (i.toNat * 3)).off + 2, none⟩ = some (.slice A2 (rd_T32 xs i).f2.length c2) ∧ (rd_T32 xs i).f2.length ≤ c2 ∧ k39.C w A2 (rd_T32 xs i).f2.length (rd_T32 xs i).f2 := by
  obtain ⟨ad, c, e, _, hK, hc0⟩ := Kd.C_get h z32 i h0 h1
  have hc : ∀ j u, c[j]? = some u → w.cell? (ad.add (i.toNat * 3 + j)) = some u := hc0
  obtain ⟨A2, c2, rfl, l2, g2⟩ := k32_open hK
  exact ⟨ad, A2, c2, e, hc 0 _ rfl, by rw [← add_field _ _ 1 (by omega)]; exact hc 1 _ rfl, by rw [← add_field _ _ 2 (by omega)]; exact hc 2 _ rfl, l2, g2⟩

/-! #### struct type 105 -/
structure S105 where
  f0 : Int
  f1 : Int
def z105 : S105 := ⟨(0 : Int), (0 : Int)⟩
def k105 : Kd S105 := Kd.iso (Kd.pair (Kd.int .i64) (Kd.int .i64)) (fun x : S105 => (x.f0, x.f1))
theorem k105_open {w : World} {x : S105} {cs : List Value} (h : k105.K w x cs) : cs = [.int .i64 x.f0, .int .i64 x.f1] := by
  obtain ⟨_, _, rfl, rfl, rfl⟩ := h
  exact rfl
theorem k105_openM {w : World} {base : Nat} {ok : Nat → Prop} {x : S105} {cs : List Value} (h : k105.M w base ok x cs) : cs = [.int .i64 x.f0, .int .i64 x.f1] := by
  obtain ⟨_, _, rfl, rfl, rfl⟩ := h
  exact rfl
theorem k105_mk (w : World) (x : S105)  : k105.K w x [.int .i64 x.f0, .int .i64 x.f1] := ⟨[.int .i64 x.f0], [.int .i64 x.f1], rfl, rfl, rfl⟩
theorem k105_mkM (w : World) (base : Nat) (ok : Nat → Prop) (x : S105)  : k105.M w base ok x [.int .i64 x.f0, .int .i64 x.f1] := ⟨[.int .i64 x.f0], [.int .i64 x.f1], rfl, rfl, rfl⟩
theorem k105_mkF (W : World) (ok : Nat → Prop) (x : S105) : Kd.FK k105 W ok x [.int .i64 x.f0, .int .i64 x.f1] := fun W2 _ => k105_mk W2 x
def rd_T105 (xs : List S105) (i : Int) : S105 := xs.getD i.toNat z105
theorem at_T105 {w : World} {A : Option Addr} {n : Nat} {xs : List S105} (h : Kd.C k105 w A n xs) (i : Int) (h0 : 0 ≤ i) (h1 : i < n) : ∃ ad , A = some ad ∧ w.cell? (ad.add (i.toNat * 2)) = some (.int .i64 (rd_T105 xs i).f0) ∧ w.cell? ⟨(ad.add (i.toNat * 2)).block, (ad.add (i.toNat * 2)).off + 1, none⟩ = some (.int .i64 (rd_T105 xs i).f1) := by
  obtain ⟨ad, c, e, _, hK, hc0⟩ := Kd.C_get h z105 i h0 h1
  have hc : ∀ j u, c[j]? = some u → w.cell? (ad.add (i.toNat * 2 + j)) = some u := hc0
  obtain rfl := k105_open hK
  exact ⟨ad, e, hc 0 _ rfl, by rw [← add_field _ _ 1 (by omega)]; exact hc 1 _ rfl⟩
end Go.Proofs.YthdfmbmbjpmlaaaDoor.Rn
namespace Go.Proofs.YthdfmbmbjpmlaaaDoor.Rn
open Go.RowKit Go.Proofs.YthdfmbmbjpmlaaaDoorW.PrintWords Go.Proofs.YthdfmbmbjpmlaaaDoorW.PrintLast Go.Proofs.YthdfmbmbjpmlaaaDoorW.PrintMore
attribute [local go_sem] max2_int min2_int max_two min_two max_three min_three max_four min_four   -- for this text's walks alone
set_option linter.unusedVariables false
set_option linter.unusedSimpArgs false
/-! ### runes_value: function 71 -/
def runes_value.f (a0 : Int) : Option (Int) := if a0 < 55296 then (some (wrap32 (a0))) else (some (wrap32 (wrap64 (a0 + 2048))))
set_option maxHeartbeats 8000000 in
set_option maxRecDepth 100000 in
theorem runes_value.calls (a0 : Int) (r : Int) (w : World) (h : runes_value.f a0 = some r) :
    Calls Tryd.prog 71 #[.int .i64 a0] w fun e w' => e = .returned (.int .i32 r) ∧ Drawn0 w w' := by
  have H : (if a0 < 55296 then (some (wrap32 (a0))) else (some (wrap32 (wrap64 (a0 + 2048))))) = some r := h
  clear h
  by_cases c2 : a0 < 55296
  · rw [if_pos c2] at H
    have c2b0 : decide (a0 < 55296) = true := decide_eq_true c2
    clear c2
    obtain rfl := Option.some.inj H
    go_enter Tryd.func71, Tryd.ntmps71
    go_wp2
    go_ret
    exact ⟨by first | rfl | (simp; done) | (simp [*]; done), by repeat (first | exact Drawn0.refl _ | apply Drawn0.step)⟩
  · rw [if_neg c2] at H
    have c2b0 : decide (a0 < 55296) = false := decide_eq_false c2
    clear c2
    obtain rfl := Option.some.inj H
    go_enter Tryd.func71, Tryd.ntmps71
    go_wp2
    go_ret
    exact ⟨by first | rfl | (simp; done) | (simp [*]; done), by repeat (first | exact Drawn0.refl _ | apply Drawn0.step)⟩

/-! ### runes_ranges: function 69 -/
def runes_ranges.l0 : Nat → List (S56) → List (S105) → Int → Int → Option ((List (S56)))
  | 0, _, _, _, _ => none
  | k + 1, x3, x6, x7, x8 => if x8 < x7 then (if 0 ≤ x8 then (if x8 < (x6.length : Int) then ((runes_value.f ((rd_T105 x6 x8).f0)).bind fun t274 => ((runes_value.f (wrap64 (((rd_T105 x6 x8).f1) - 1))).bind fun t275 => (if x3.length < 17592186044416 then (runes_ranges.l0 k (x3 ++ [(⟨t274, t275⟩ : S56)]) x6 x7 (wrap64 (x8 + 1))) else (none)))) else (none)) else (none)) else (some x3)
def runes_ranges.f (k : Nat) (l0 : List (S105)) : Option ((List (S56))) := runes_ranges.l0 k ([] : List (S56)) l0 (l0.length : Int) 0
theorem runes_ranges.mono_l : ∀ k, (∀ y0 y1 y2 y3, LeO (runes_ranges.l0 k y0 y1 y2 y3) (runes_ranges.l0 (k + 1) y0 y1 y2 y3))
  | 0 => fun _ _ _ _ r h => by simp [runes_ranges.l0] at h
  | k + 1 => by
    have ih0 := runes_ranges.mono_l k
    · intro y0 y1 y2 y3
      unfold runes_ranges.l0
      repeat' first
      | (with_reducible exact ih0 _ _ _ _)
      | (with_reducible exact LeO.refl _)
      | (with_reducible exact LeO.none _)
      | (with_reducible refine LeO.ite ?_ ?_)
      | (with_reducible refine LeO.bind ?_ (fun _ => ?_))
      | exact ih0 _ _ _ _
      | exact LeO.none _
      | refine LeO.ite ?_ ?_
      | refine LeO.bind ?_ (fun _ => ?_)
theorem runes_ranges.mono : ∀ a0 k, LeO (runes_ranges.f k a0) (runes_ranges.f (k + 1) a0) := by
  intro a0 k
  have ih0 := runes_ranges.mono_l k
  unfold runes_ranges.f
  repeat' first
      | (with_reducible exact ih0 _ _ _ _)
      | (with_reducible exact LeO.refl _)
      | (with_reducible exact LeO.none _)
      | (with_reducible refine LeO.ite ?_ ?_)
      | (with_reducible refine LeO.bind ?_ (fun _ => ?_))
      | exact ih0 _ _ _ _
      | exact LeO.none _
      | refine LeO.ite ?_ ?_
      | refine LeO.bind ?_ (fun _ => ?_)
def runes_ranges.T5 : Bool × List (List Nat × List Nat) := (true, [([], []), ([], []), ([1], [1]), ([2], [2]), ([], []), ([4], [4]), ([5], [5]), ([6, 3], [6]), ([3, 7], [3, 7]), ([8], [8]), ([0, 9, 7], [0, 9]), ([10, 10, 0, 1, 2, 3, 4, 5, 6, 7, 8, 9, 10], [0, 10])])
def runes_ranges.B5 : List Nat := [0, 0, 2, 6, 0, 16, 48, 126, 254, 510, 1023, 2047]
theorem runes_ranges.tab5 : rtab .any (opsOf Tryd.f69 5) = runes_ranges.T5 := by kernel_rfl
theorem runes_ranges.bits5 : waitsOk runes_ranges.T5.2 runes_ranges.B5 = true := by kernel_rfl
set_option maxHeartbeats 8000000 in
set_option maxRecDepth 100000 in
theorem runes_ranges.calls (k : Nat) (A0 : Option Addr) (c0 : Nat) (l0 : List (S105)) (r : List (S56)) (w : World) (hr0 : Kd.C k105 w A0 l0.length l0) (hc0 : l0.length ≤ c0) (h : runes_ranges.f k l0 = some r) :
    Calls Tryd.prog 69 #[.slice A0 l0.length c0] w fun e w' => ∃ v0_ : Value, e = .returned (v0_) ∧ Kd.R k56 56 w' w.heap.size (fun _ => True) v0_ r ∧ Below w.heap.size w w' := by
  have hu105 := Tryd.underlying105
  have hu56 := Tryd.underlying56
  have HR0 := Aside0.mk hr0
  have HC0 := Aside0.mk hc0
  clear hr0 hc0
  have HB := Aside0.mk (Below.refl w.heap.size w)
  have H : (runes_ranges.l0 k ([] : List (S56)) l0 (l0.length : Int) 0) = some r := h
  clear h
  have H' := Aside0.mk H
  clear H
  go_enter Tryd.func69, Tryd.ntmps69
  go_wp2
  go_loopg [3, 8] k (fun kq v3 v8 w' => ∃ (x3_1 : List (S56)) (x8_1 : Int), v8 = .int .i64 x8_1 ∧ Aside0 (runes_ranges.l0 kq x3_1 l0 (l0.length : Int) x8_1 = some r) ∧ Aside0 (kq ≤ k) ∧ Aside0 (Kd.R k56 56 w' w.heap.size (fun _ => True) v3 x3_1) ∧ Aside0 (Below w.heap.size w w'))
  case atStart => exact ⟨(([] : List (S56))), (0), (by first | rfl | (simp; done) | (simp [*]; done)), H', ⟨Nat.le_refl _⟩, ⟨by first | exact Kd.R_nil _ _ _ _ _ | exact Kd.N_nil _ _ _ _ _ | exact Kd.V_nil _ _ _ _ _ | exact Kd.Q_nil _ _ _ _ _ | exact Kd.S_nil _ _ _ _ _⟩, ⟨by repeat (first | (with_reducible first | exact HB.out | apply below_alloc | apply pw_below_drewN | apply below_drew1) | exact HB.out)⟩⟩
  case round =>
    clear H'
    obtain ⟨x3_1, x8_1, rfl, HA, HK1, HO_3, HB⟩ := hrel
    cases gk with
    | zero => exact absurd HA.out (by simp [runes_ranges.l0])
    | succ k1 =>
      have H := HA.out
      clear HA
      simp only [runes_ranges.l0] at H
      by_cases c2 : x8_1 < (l0.length : Int)
      · rw [if_pos c2] at H
        have c2b0 : decide (x8_1 < (l0.length : Int)) = true := decide_eq_true c2
        clear c2
        by_cases c3 : 0 ≤ x8_1
        · rw [if_pos c3] at H
          have c3b0 : decide (0 ≤ x8_1) = true := decide_eq_true c3
          clear c3
          by_cases c4 : x8_1 < (l0.length : Int)
          · rw [if_pos c4] at H
            have c4b0 : decide (x8_1 < (l0.length : Int)) = true := decide_eq_true c4
            clear c4
            replace H := Option.bind_eq_some_iff.mp H
            obtain ⟨t274, A50, H⟩ := H
            replace H : ((runes_value.f (wrap64 (((rd_T105 l0 x8_1).f1) - 1))).bind fun t275 => (if x3_1.length < 17592186044416 then (runes_ranges.l0 k1 (x3_1 ++ [(⟨t274, t275⟩ : S56)]) l0 (l0.length : Int) (wrap64 (x8_1 + 1))) else (none))) = some r := H
            have A5 := Aside0.mk A50
            clear A50
            replace H := Option.bind_eq_some_iff.mp H
            obtain ⟨t275, A60, H⟩ := H
            replace H : (if x3_1.length < 17592186044416 then (runes_ranges.l0 k1 (x3_1 ++ [(⟨t274, t275⟩ : S56)]) l0 (l0.length : Int) (wrap64 (x8_1 + 1))) else (none)) = some r := H
            have A6 := Aside0.mk A60
            clear A60
            by_cases c7 : x3_1.length < 17592186044416
            · rw [if_pos c7] at H
              have LMc7 := Aside0.mk c7
              clear c7
              obtain ⟨y276, hy276⟩ : ∃ y_ : List (S56), y_ = (x3_1 ++ [(⟨t274, t275⟩ : S56)]) := ⟨_, rfl⟩
              replace H : (runes_ranges.l0 k1 y276 l0 (l0.length : Int) (wrap64 (x8_1 + 1))) = some r := by first | (rw [hy276]; with_reducible exact H) | (have H2_ := (Option.bind_some _ _).symm.trans H; rw [hy276]; with_reducible exact H2_) | (have H2_ := (Option.bind_some _ _).symm.trans H; with_reducible exact H2_) | with_reducible exact H | (rw [hy276]; exact H) | exact H
              have Ny276 := Aside0.mk hy276
              clear hy276
              have H' := Aside0.mk H
              clear H
              have p272 : 0 ≤ (x8_1 : Int) := of_decide_eq_true (by first | (with_reducible assumption) | assumption)
              have q272 : x8_1 < (l0.length : Int) := of_decide_eq_true (by first | (with_reducible assumption) | assumption)
              obtain ⟨ad272, e272, hx272_0, hx272_1⟩ := at_T105 HR0.out x8_1 p272 q272
              cases e272
              replace hx272_0 := (HB.out.cell (World.block_lt_of_cell? w _ hx272_0)).trans hx272_0
              replace hx272_1 := (HB.out.cell (World.block_lt_of_cell? w _ hx272_1)).trans hx272_1
              replace p272 := eq_true p272
              replace q272 := eq_true q272
              try go_wp2_with (first | ((with_reducible refine gate_dst (N := 5) rfl ?_); refine box_event ?hg (N := 5) ?hd (cs := #[.int .i64 0, .int .i64 0]) (t := 105) ?hr ?_; (case hd => rfl); (case hg => rfl); (case hr => first | (go_simp; done) | (go_simp; rfl)); intro gb273 hg w8 hbox hb; have n0_ := Aside0.mk (Kd.R_below (by (with_reducible repeat (first | apply Kd.R_alloc | apply Kd.R_drewN | apply Kd.R_drew)); exact HO_3.out) hb); have n1_ := Aside0.mk (below_step (by repeat (first | (with_reducible first | exact HB.out | apply below_alloc | apply pw_below_drewN | apply below_drew1) | exact HB.out)) hb); have n2_ := Aside0.mk (hbox); have n3_ := Aside0.mk ((by rw [hg]; exact (below_size (by repeat (first | (with_reducible first | exact HB.out | apply below_alloc | apply pw_below_drewN | apply below_drew1) | exact HB.out))) : w.heap.size ≤ gb273)); have n4_ := Aside0.mk ((by rw [hg]; exact (below_size (by repeat (first | (with_reducible first | exact HB.out | apply below_alloc | apply pw_below_drewN | apply below_drew1) | exact HB.out))) : w.heap.size ≤ gb273)); clear HO_3; clear HB; have HO_3 := n0_; have HB := n1_; have BK273 := n2_; have GW273 := n3_; have GE273 := n4_; clear n0_ n1_ n2_ n3_ n4_; clear hb hbox hg; have hcz9_0 : w8.cell? ⟨gb273, 0, none⟩ = some (.int .i64 0) := (blk_cell BK273.out 0).trans rfl; have hcz9_1 : w8.cell? ⟨gb273, 1, none⟩ = some (.int .i64 0) := (blk_cell BK273.out 1).trans rfl; have hfz9_0 := blk_frozen BK273.out 0; have hfz9_1 := blk_frozen BK273.out 1))
              have n0_ : Aside0 (Kd.R k56 56 ((w8.setCell ⟨gb273, 0, none⟩ (.int .i64 ((rd_T105 l0 x8_1).f0))).setCell ⟨gb273, 1, none⟩ (.int .i64 ((rd_T105 l0 x8_1).f1))) w.heap.size (fun _ => True) u3 x3_1) := ⟨by (with_reducible repeat (first | apply Kd.R_alloc | apply Kd.R_drewN | apply Kd.R_drew)); exact Kd.R_mono (Kd.R_far (p := ⟨gb273, 1, none⟩) (Kd.R_far (p := ⟨gb273, 0, none⟩) (Kd.R_types HO_3.out BK273.out (by decide)) (fun _ hk => hk.2) (.int .i64 ((rd_T105 l0 x8_1).f0))) (fun _ hk => hk.2) (.int .i64 ((rd_T105 l0 x8_1).f1))) (fun _ hk => trivial)⟩
              have n1_ : Aside0 (((w8.setCell ⟨gb273, 0, none⟩ (.int .i64 ((rd_T105 l0 x8_1).f0))).setCell ⟨gb273, 1, none⟩ (.int .i64 ((rd_T105 l0 x8_1).f1))).heap[gb273]? = some (.cells #[.int .i64 ((rd_T105 l0 x8_1).f0), .int .i64 ((rd_T105 l0 x8_1).f1)] 105 (0, 0))) := ⟨by (with_reducible repeat (first | refine blk_drewN ?_ _ | refine blk_drew ?_ | refine blk_alloc ?_ _)); refine blk_put (cs := #[.int .i64 ((rd_T105 l0 x8_1).f0), .int .i64 0]) ?_ 1 _ rfl; (with_reducible repeat (first | refine blk_drewN ?_ _ | refine blk_drew ?_ | refine blk_alloc ?_ _)); refine blk_put (cs := #[.int .i64 0, .int .i64 0]) ?_ 0 _ rfl; (with_reducible repeat (first | refine blk_drewN ?_ _ | refine blk_drew ?_ | refine blk_alloc ?_ _)); exact BK273.out⟩
              have n2_ : Aside0 (Below w.heap.size w ((w8.setCell ⟨gb273, 0, none⟩ (.int .i64 ((rd_T105 l0 x8_1).f0))).setCell ⟨gb273, 1, none⟩ (.int .i64 ((rd_T105 l0 x8_1).f1)))) := ⟨by repeat (first | (with_reducible first | exact HB.out | apply below_alloc | apply pw_below_drewN | apply below_drew1 | refine below_set ?_ GE273.out) | exact HB.out)⟩
              (try clear HO_3)
              (try clear BK273)
              (try clear HB)
              generalize ((w8.setCell ⟨gb273, 0, none⟩ (.int .i64 ((rd_T105 l0 x8_1).f0))).setCell ⟨gb273, 1, none⟩ (.int .i64 ((rd_T105 l0 x8_1).f1))) = w10 at n0_ n1_ n2_ ⊢
              have HO_3 := n0_
              have BK273 := n1_
              have HB := n2_
              clear n0_ n1_ n2_
              have n0_ := Aside0.mk (Kd.R_drew HO_3.out)
              have n1_ := Aside0.mk (blk_drew BK273.out)
              have n2_ := Aside0.mk (below_drew1 HB.out)
              clear HO_3
              clear BK273
              clear HB
              have HO_3 := n0_
              have BK273 := n1_
              have HB := n2_
              clear n0_ n1_ n2_
              refine start_ (n := 12) (S := fun w' => w'.cell? ⟨gb273, 0, none⟩ = some (.int .i64 ((rd_T105 l0 x8_1).f0)) ∧ w'.cell? ⟨gb273, 1, none⟩ = some (.int .i64 ((rd_T105 l0 x8_1).f1))) (ds := []) #[false, false, false, false, false, false, false, false, false, false, false, false] (by kernel_rfl) rfl rfl ⟨(blk_cell BK273.out 0).trans rfl, (blk_cell BK273.out 1).trans rfl⟩ (fun hHeld => ?_); refine with_tabW runes_ranges.tab5 runes_ranges.bits5 (fun HT_ HW_ => ?_)
              generalize w10.drew = w11 at HO_3 BK273 HB hHeld ⊢
              refine pure_ (i := 0) (N := some 12) (v := ?_) (a' := ?_) #[true, false, false, false, false, false, false, false, false, false, false, false] rfl rfl (any_of HT_.out (by kernel_rfl)) (fun _ _ _ h => h) (Or.inl ⟨by rfl, ?_⟩) ?_ ?_
              rotate_left
              · intro w'
                go_simp
                with_reducible rfl
              rotate_left
              · simp only [Act.put, List.setIfInBounds_toArray, List.set_cons_zero, List.set_cons_succ, i64_w, i32_w]
                rfl
              refine pure_ (i := 1) (N := some 13) (v := ?_) (a' := ?_) #[true, true, false, false, false, false, false, false, false, false, false, false] rfl rfl (any_of HT_.out (by kernel_rfl)) (fun _ _ _ h => h) (Or.inl ⟨by rfl, ?_⟩) ?_ ?_
              rotate_left
              · intro w'
                go_simp
                with_reducible rfl
              rotate_left
              · simp only [Act.put, List.setIfInBounds_toArray, List.set_cons_zero, List.set_cons_succ, i64_w, i32_w]
                rfl
              refine pure_ (i := 4) (N := some 16) (v := ?_) (a' := ?_) #[true, true, false, false, true, false, false, false, false, false, false, false] rfl rfl (any_of HT_.out (by kernel_rfl)) (fun _ _ _ h => h) (Or.inl ⟨by rfl, ?_⟩) ?_ ?_
              rotate_left
              · intro w'
                go_simp
                with_reducible rfl
              rotate_left
              · simp only [Act.put, List.setIfInBounds_toArray, List.set_cons_zero, List.set_cons_succ, i64_w, i32_w]
                rfl
              refine take_ (i := 2) (N := some 14) (v := ?_) (a' := ?_) #[true, true, true, false, true, false, false, false, false, false, false, false] rfl rfl (take_ofW HT_.out HW_.out (by kernel_rfl)) (fun _ _ _ h => h) (Or.inl ⟨by rfl, ?_⟩) hHeld ?_ ?_
              rotate_left
              · rintro w' ⟨s0, s1⟩
                go_simp
                with_reducible rfl
              rotate_left
              · simp only [Act.put, List.setIfInBounds_toArray, List.set_cons_zero, List.set_cons_succ, i64_w, i32_w]
                rfl
              refine take_ (i := 5) (N := some 17) (v := ?_) (a' := ?_) #[true, true, true, false, true, true, false, false, false, false, false, false] rfl rfl (take_ofW HT_.out HW_.out (by kernel_rfl)) (fun _ _ _ h => h) (Or.inl ⟨by rfl, ?_⟩) hHeld ?_ ?_
              rotate_left
              · rintro w' ⟨s0, s1⟩
                go_simp
                with_reducible rfl
              rotate_left
              · simp only [Act.put, List.setIfInBounds_toArray, List.set_cons_zero, List.set_cons_succ, i64_w, i32_w]
                rfl
              refine pure_ (i := 6) (N := some 18) (v := ?_) (a' := ?_) #[true, true, true, false, true, true, true, false, false, false, false, false] rfl rfl (any_of HT_.out (by kernel_rfl)) (fun _ _ _ h => h) (Or.inl ⟨by rfl, ?_⟩) ?_ ?_
              rotate_left
              · intro w'
                go_simp
                with_reducible rfl
              rotate_left
              · simp only [Act.put, List.setIfInBounds_toArray, List.set_cons_zero, List.set_cons_succ, i64_w, i32_w]
                rfl
              refine one_ (i := 3) (N := some 15) #[true, true, true, true, true, true, true, false, false, false, false, false] rfl rfl (one_of HT_.out (by kernel_rfl)) (by decide) (fun K hK => ?_)
              refine goes_ Tryd.func71 (by kernel_rfl) rfl #[.int .i64 ((rd_T105 l0 x8_1).f0)] (by rfl) rfl rfl (by (try simp only [List.map_toArray, List.map_cons, List.map_nil]); first | done | rfl | (simp only [List.length_drop, List.length_take]; rfl)) ?_
              with_reducible refine (runes_value.calls ((rd_T105 l0 x8_1).f0) t274 _ A5.out).mono ?_
              rintro e w' ⟨rfl, ⟨nd, rfl⟩⟩
              refine ⟨_, rfl, ?_⟩
              refine hK.out _ _ ⟨(blk_cell BK273.out 0).trans rfl, (blk_cell BK273.out 1).trans rfl⟩ (fun hHeld => ?_)
              clear hK K
              refine norm_ (a' := ?_) ?_ ?_
              rotate_left
              · show Act.put _ (some 15) _ = _
                simp only [Act.put, List.setIfInBounds_toArray, List.set_cons_zero, List.set_cons_succ, i64_w, i32_w]
                rfl
              refine one_ (i := 7) (N := some 19) #[true, true, true, true, true, true, true, true, false, false, false, false] rfl rfl (one_of HT_.out (by kernel_rfl)) (by decide) (fun K hK => ?_)
              refine goes_ Tryd.func71 (by kernel_rfl) rfl #[.int .i64 (wrap64 (((rd_T105 l0 x8_1).f1) - 1))] (by rfl) rfl rfl (by (try simp only [List.map_toArray, List.map_cons, List.map_nil]); first | done | rfl | (simp only [List.length_drop, List.length_take]; rfl)) ?_
              with_reducible refine (runes_value.calls (wrap64 (((rd_T105 l0 x8_1).f1) - 1)) t275 _ A6.out).mono ?_
              rintro e w' ⟨rfl, ⟨nd, rfl⟩⟩
              refine ⟨_, rfl, ?_⟩
              refine hK.out _ _ ⟨(blk_cell BK273.out 0).trans rfl, (blk_cell BK273.out 1).trans rfl⟩ (fun hHeld => ?_)
              clear hK K
              refine norm_ (a' := ?_) ?_ ?_
              rotate_left
              · show Act.put _ (some 19) _ = _
                simp only [Act.put, List.setIfInBounds_toArray, List.set_cons_zero, List.set_cons_succ, i64_w, i32_w]
                rfl
              refine pure_ (i := 8) (N := some 20) (v := ?_) (a' := ?_) #[true, true, true, true, true, true, true, true, true, false, false, false] rfl rfl (any_of HT_.out (by kernel_rfl)) (fun _ _ _ h => h) (Or.inl ⟨by rfl, ?_⟩) ?_ ?_
              rotate_left
              · intro w'
                go_simp
                with_reducible rfl
              rotate_left
              · simp only [Act.put, List.setIfInBounds_toArray, List.set_cons_zero, List.set_cons_succ, i64_w, i32_w]
                rfl
              refine one_ (i := 9) (N := some 21) #[true, true, true, true, true, true, true, true, true, true, false, false] rfl rfl (one_of HT_.out (by kernel_rfl)) (by decide) (fun K hK => ?_)
              refine value_ (w1 := ?_) (v := ?_) (by rfl) rfl ?_ ?_
              rotate_left 2
              · go_simp
                constructor
                · rfl
                · rfl
              refine hK.out _ _ ⟨(blk_cell (blk_alloc BK273.out _) 0).trans rfl, (blk_cell (blk_alloc BK273.out _) 1).trans rfl⟩ (fun hHeld => ?_)
              clear hK K
              refine norm_ (a' := ?_) ?_ ?_
              rotate_left
              · show Act.put _ (some 21) _ = _
                simp only [Act.put, List.setIfInBounds_toArray, List.set_cons_zero, List.set_cons_succ, i64_w, i32_w]
                rfl
              refine one_ (i := 10) (N := some 22) #[true, true, true, true, true, true, true, true, true, true, true, false] rfl rfl (one_of HT_.out (by kernel_rfl)) (by decide) (fun K hK => ?_)
              refine Kd.R_append_step k56 (w0 := w) w.heap.size (by rfl) (.tmp 12) (.tmp 21) 45 56 (.agg #[(.int .i32 0), (.int .i32 0)]) 8 rfl Tryd.underlying45 info56 rfl (by decide) (by omega) u3 x3_1 (⟨t274, t275⟩ : S56) [.int .i32 t274, .int .i32 t275] (fun _ => True) (fun _ => False) rfl rfl ?aP (fun _ hk => hk.elim) ?aF ?aO ?aB ?aS ?aL ?_
              (case aP => exact k56_mkM _ _ _ (⟨t274, t275⟩ : S56))
              (case aB => exact (by repeat (first | (with_reducible first | exact HB.out | apply below_alloc | apply pw_below_drewN | apply below_drew1 | refine below_set ?_ GE273.out) | exact HB.out)))
              (case aF => exact (fun _ _ => trivial))
              (case aO => exact (by (with_reducible repeat (first | apply Kd.R_alloc | apply Kd.R_drewN | apply Kd.R_drew)); exact HO_3.out))
              (case aS => exact (below_size (by repeat (first | (with_reducible first | exact HB.out | apply below_alloc | apply pw_below_drewN | apply below_drew1 | refine below_set ?_ GE273.out) | exact HB.out))))
              (case aL => have := LMc7.out; omega)
              intro v277 w12 ho hb hg hat
              rw [← Ny276.out] at ho
              have n0_ := Aside0.mk (blk_grown (g := gb273) (o := .cells #[.int .i64 ((rd_T105 l0 x8_1).f0), .int .i64 ((rd_T105 l0 x8_1).f1)] 105 (0, 0)) (by (with_reducible repeat (first | refine blk_drewN ?_ _ | refine blk_drew ?_ | refine blk_alloc ?_ _)); exact BK273.out) hg (Kd.R_ne HO_3.out BK273.out (by decide)))
              have n1_ := Aside0.mk (hb)
              have n2_ := Aside0.mk (ho)
              clear BK273
              clear HB
              clear HO_3
              have BK273 := n0_
              have HB := n1_
              have HO278 := n2_
              clear n0_ n1_ n2_
              clear ho hb hg hat
              refine hK.out _ _ ⟨(blk_cell BK273.out 0).trans rfl, (blk_cell BK273.out 1).trans rfl⟩ (fun hHeld => ?_)
              clear hK K
              refine norm_ (a' := ?_) ?_ ?_
              rotate_left
              · show Act.put _ (some 22) _ = _
                simp only [Act.put, List.setIfInBounds_toArray, List.set_cons_zero, List.set_cons_succ, i64_w, i32_w]
                rfl
              refine pure_ (i := 11) (N := some 3) (v := ?_) (a' := ?_) #[true, true, true, true, true, true, true, true, true, true, true, true] rfl rfl (any_of HT_.out (by kernel_rfl)) (fun _ _ _ h => h) (Or.inl ⟨by rfl, ?_⟩) ?_ ?_
              rotate_left
              · intro w'
                go_simp
                with_reducible rfl
              rotate_left
              · simp only [Act.put, List.setIfInBounds_toArray, List.set_cons_zero, List.set_cons_succ, i64_w, i32_w]
                rfl
              refine done_ (done_of HT_.out (by kernel_rfl)) ?_
              try go_wp2
              go_roundg k1
              case measure => have := HK1.out; omega
              case rel => exact ⟨(y276), (wrap64 (x8_1 + 1)), (by first | rfl | (simp; done) | (simp [*]; done)), H', ⟨by have := HK1.out; omega⟩, ⟨by (with_reducible repeat (first | apply Kd.R_alloc | apply Kd.R_drewN | apply Kd.R_drew)); exact HO278.out⟩, ⟨by repeat (first | (with_reducible first | exact HB.out | apply below_alloc | apply pw_below_drewN | apply below_drew1 | refine below_set ?_ GE273.out) | exact HB.out)⟩⟩
            · rw [if_neg c7] at H
              exact absurd H (by simp)
          · rw [if_neg c4] at H
            exact absurd H (by simp)
        · rw [if_neg c3] at H
          exact absurd H (by simp)
      · rw [if_neg c2] at H
        have c2b0 : decide (x8_1 < (l0.length : Int)) = false := decide_eq_false c2
        clear c2
        obtain rfl := Option.some.inj H
        go_wp2
        go_ret
        exact ⟨_, by first | rfl | (simp [errW_none, errW_some] <;> rfl) | (simp [*, errW_none, errW_some] <;> rfl), by (with_reducible repeat (first | apply Kd.R_alloc | apply Kd.R_drewN | apply Kd.R_drew)); exact HO_3.out, by repeat (first | (with_reducible first | exact HB.out | apply below_alloc | apply pw_below_drewN | apply below_drew1) | exact HB.out)⟩

/-! ### runes_number: function 72 -/
def runes_number.f (a0 : Int) : Option (Int) := if a0 < 0 then (some 0) else (if a0 < 55296 then (some (wrap64 (a0))) else (if a0 ≤ 57343 then (some 55296) else (some (wrap64 ((mn (wrap64 (a0)) 1114112) - 2048)))))
set_option maxHeartbeats 8000000 in
set_option maxRecDepth 100000 in
theorem runes_number.calls (a0 : Int) (r : Int) (w : World) (h : runes_number.f a0 = some r) :
    Calls Tryd.prog 72 #[.int .i32 a0] w fun e w' => e = .returned (.int .i64 r) ∧ Below w.heap.size w w' := by
  have HB := Aside0.mk (Below.refl w.heap.size w)
  have H : (if a0 < 0 then (some 0) else (if a0 < 55296 then (some (wrap64 (a0))) else (if a0 ≤ 57343 then (some 55296) else (some (wrap64 ((mn (wrap64 (a0)) 1114112) - 2048)))))) = some r := h
  clear h
  by_cases c2 : a0 < 0
  · rw [if_pos c2] at H
    have c2b0 : decide (a0 < 0) = true := decide_eq_true c2
    clear c2
    obtain rfl := Option.some.inj H
    go_enter Tryd.func72, Tryd.ntmps72
    go_wp2
    go_ret
    exact ⟨by first | rfl | (simp [errW_none, errW_some] <;> rfl) | (simp [*, errW_none, errW_some] <;> rfl), by repeat (first | (with_reducible first | exact HB.out | apply below_alloc | apply pw_below_drewN | apply below_drew1) | exact HB.out)⟩
  · rw [if_neg c2] at H
    have c2b0 : decide (a0 < 0) = false := decide_eq_false c2
    clear c2
    by_cases c3 : a0 < 55296
    · rw [if_pos c3] at H
      have c3b0 : decide (a0 < 55296) = true := decide_eq_true c3
      clear c3
      obtain rfl := Option.some.inj H
      go_enter Tryd.func72, Tryd.ntmps72
      go_wp2
      go_ret
      exact ⟨by first | rfl | (simp [errW_none, errW_some] <;> rfl) | (simp [*, errW_none, errW_some] <;> rfl), by repeat (first | (with_reducible first | exact HB.out | apply below_alloc | apply pw_below_drewN | apply below_drew1) | exact HB.out)⟩
    · rw [if_neg c3] at H
      have c3b0 : decide (a0 < 55296) = false := decide_eq_false c3
      clear c3
      by_cases c4 : a0 ≤ 57343
      · rw [if_pos c4] at H
        have c4b0 : decide (a0 ≤ 57343) = true := decide_eq_true c4
        clear c4
        obtain rfl := Option.some.inj H
        go_enter Tryd.func72, Tryd.ntmps72
        go_wp2
        go_ret
        exact ⟨by first | rfl | (simp [errW_none, errW_some] <;> rfl) | (simp [*, errW_none, errW_some] <;> rfl), by repeat (first | (with_reducible first | exact HB.out | apply below_alloc | apply pw_below_drewN | apply below_drew1) | exact HB.out)⟩
      · rw [if_neg c4] at H
        have c4b0 : decide (a0 ≤ 57343) = false := decide_eq_false c4
        clear c4
        obtain ⟨ji5, hji5⟩ : ∃ j_ : Int, (mn (wrap64 (a0)) 1114112) = j_ := ⟨_, rfl⟩
        replace H : (some (wrap64 ((ji5) - 2048))) = some r := by first | (rw [hji5] at H; exact H) | (simp only [hji5] at H ⊢; exact H)
        (try (have hji5h : ji5 ≤ 1114112 := by (rw [← hji5]; unfold mn; (repeat' split) <;> omega)))
        (try (have hji5g : ji5 ≤ 64 := by omega))
        have hji5_ : (if 1114112 < (wrap64 (a0)) then 1114112 else (wrap64 (a0))) = ji5 := hji5
        obtain rfl := Option.some.inj H
        go_enter Tryd.func72, Tryd.ntmps72
        go_wp2
        go_ret
        exact ⟨by first | rfl | (simp [errW_none, errW_some] <;> rfl) | (simp only [← hji5]; first | rfl | (simp [errW_none, errW_some] <;> rfl)) | (simp [*, errW_none, errW_some] <;> rfl), by repeat (first | (with_reducible first | exact HB.out | apply below_alloc | apply pw_below_drewN | apply below_drew1) | exact HB.out)⟩

/-! ### runes_is: function 77 -/
def runes_is.f (a0 : Int) : Option (Bool) := if a0 ≥ 0 then (if a0 < 55296 then (some true) else (if a0 > 57343 then (some (decide (a0 ≤ 1114111))) else (some false))) else (if a0 > 57343 then (some (decide (a0 ≤ 1114111))) else (some false))
set_option maxHeartbeats 8000000 in
set_option maxRecDepth 100000 in
theorem runes_is.calls (a0 : Int) (r : Bool) (w : World) (h : runes_is.f a0 = some r) :
    Calls Tryd.prog 77 #[.int .i32 a0] w fun e w' => e = .returned (.bool r) ∧ Drawn0 w w' := by
  have H : (if a0 ≥ 0 then (if a0 < 55296 then (some true) else (if a0 > 57343 then (some (decide (a0 ≤ 1114111))) else (some false))) else (if a0 > 57343 then (some (decide (a0 ≤ 1114111))) else (some false))) = some r := h
  clear h
  by_cases c2 : a0 ≥ 0
  · rw [if_pos c2] at H
    have c2b0 : decide (0 ≤ a0) = true := decide_eq_true c2
    clear c2
    by_cases c3 : a0 < 55296
    · rw [if_pos c3] at H
      have c3b0 : decide (a0 < 55296) = true := decide_eq_true c3
      clear c3
      obtain rfl := Option.some.inj H
      go_enter Tryd.func77, Tryd.ntmps77
      go_wp2
      go_ret
      exact ⟨by first | rfl | (simp; done) | (simp [*]; done), by repeat (first | exact Drawn0.refl _ | apply Drawn0.step)⟩
    · rw [if_neg c3] at H
      have c3b0 : decide (a0 < 55296) = false := decide_eq_false c3
      clear c3
      by_cases c4 : a0 > 57343
      · rw [if_pos c4] at H
        have c4b0 : decide (57343 < a0) = true := decide_eq_true c4
        clear c4
        obtain rfl := Option.some.inj H
        go_enter Tryd.func77, Tryd.ntmps77
        go_wp2
        go_ret
        exact ⟨by first | rfl | (simp; done) | (simp [*]; done), by repeat (first | exact Drawn0.refl _ | apply Drawn0.step)⟩
      · rw [if_neg c4] at H
        have c4b0 : decide (57343 < a0) = false := decide_eq_false c4
        clear c4
        obtain rfl := Option.some.inj H
        go_enter Tryd.func77, Tryd.ntmps77
        go_wp2
        go_ret
        exact ⟨by first | rfl | (simp; done) | (simp [*]; done), by repeat (first | exact Drawn0.refl _ | apply Drawn0.step)⟩
  · rw [if_neg c2] at H
    have c2b0 : decide (0 ≤ a0) = false := decide_eq_false c2
    clear c2
    by_cases c5 : a0 > 57343
    · rw [if_pos c5] at H
      have c5b0 : decide (57343 < a0) = true := decide_eq_true c5
      clear c5
      obtain rfl := Option.some.inj H
      go_enter Tryd.func77, Tryd.ntmps77
      go_wp2
      go_ret
      exact ⟨by first | rfl | (simp; done) | (simp [*]; done), by repeat (first | exact Drawn0.refl _ | apply Drawn0.step)⟩
    · rw [if_neg c5] at H
      have c5b0 : decide (57343 < a0) = false := decide_eq_false c5
      clear c5
      obtain rfl := Option.some.inj H
      go_enter Tryd.func77, Tryd.ntmps77
      go_wp2
      go_ret
      exact ⟨by first | rfl | (simp; done) | (simp [*]; done), by repeat (first | exact Drawn0.refl _ | apply Drawn0.step)⟩

/-! ### runes_behind: function 73 -/
def runes_behind.f (a0 : Int) : Option (Int) := (runes_number.f a0).bind fun t279 => ((runes_is.f a0).bind fun t280 => (if t280 = true then (some (wrap64 (t279 + 1))) else (some t279)))
set_option maxHeartbeats 8000000 in
set_option maxRecDepth 100000 in
theorem runes_behind.calls (a0 : Int) (r : Int) (w : World) (h : runes_behind.f a0 = some r) :
    Calls Tryd.prog 73 #[.int .i32 a0] w fun e w' => e = .returned (.int .i64 r) ∧ Below w.heap.size w w' := by
  have HB := Aside0.mk (Below.refl w.heap.size w)
  have H : ((runes_number.f a0).bind fun t279 => ((runes_is.f a0).bind fun t280 => (if t280 = true then (some (wrap64 (t279 + 1))) else (some t279)))) = some r := h
  clear h
  replace H := Option.bind_eq_some_iff.mp H
  obtain ⟨t279, A20, H⟩ := H
  replace H : ((runes_is.f a0).bind fun t280 => (if t280 = true then (some (wrap64 (t279 + 1))) else (some t279))) = some r := H
  have A2 := Aside0.mk A20
  clear A20
  replace H := Option.bind_eq_some_iff.mp H
  obtain ⟨t280, A30, H⟩ := H
  replace H : (if t280 = true then (some (wrap64 (t279 + 1))) else (some t279)) = some r := H
  have A3 := Aside0.mk A30
  clear A30
  by_cases c4 : t280 = true
  · subst c4
    have H1 : (some (wrap64 (t279 + 1))) = some r := by rw [if_pos rfl] at H; exact H
    clear H
    have H := H1
    clear H1
    obtain rfl := Option.some.inj H
    go_enter Tryd.func73, Tryd.ntmps73
    go_wp2_with (first | ((with_reducible refine gate_callee (f := 72) rfl ?_); refine goesL_ (some 5) rfl rfl Tryd.func72 (by kernel_rfl) rfl #[.int .i32 a0] rfl (by (try simp only [List.map_toArray, List.map_cons, List.map_nil]); first | done | rfl | (simp only [List.length_drop, List.length_take]; rfl)) ?_; (with_reducible refine (runes_number.calls a0 t279 _ A2.out).mono ?_); rintro e w5 ⟨rfl, hb⟩; refine ⟨_, rfl, ?_⟩; have n0_ := Aside0.mk (below_step (by repeat (first | (with_reducible first | exact HB.out | apply below_alloc | apply pw_below_drewN | apply below_drew1) | exact HB.out)) hb); clear HB; have HB := n0_; clear n0_; (try clear hb); (try clear hb2); (try clear hk); (try clear hi)) | ((with_reducible refine gate_callee (f := 77) rfl ?_); refine goesL_ (some 7) rfl rfl Tryd.func77 (by kernel_rfl) rfl #[.int .i32 a0] rfl (by (try simp only [List.map_toArray, List.map_cons, List.map_nil]); first | done | rfl | (simp only [List.length_drop, List.length_take]; rfl)) ?_; (with_reducible refine (runes_is.calls a0 true _ A3.out).mono ?_); rintro e w' ⟨rfl, ⟨nd, rfl⟩⟩; refine ⟨_, rfl, ?_⟩))
    go_ret
    exact ⟨by first | rfl | (simp [errW_none, errW_some] <;> rfl) | (simp [*, errW_none, errW_some] <;> rfl), by repeat (first | (with_reducible first | exact HB.out | apply below_alloc | apply pw_below_drewN | apply below_drew1) | exact HB.out)⟩
  · replace c4 := Bool.eq_false_iff.mpr c4
    subst c4
    have H1 : (some t279) = some r := by rw [if_neg (show ¬ (false = true) by decide)] at H; exact H
    clear H
    have H := H1
    clear H1
    obtain rfl := Option.some.inj H
    go_enter Tryd.func73, Tryd.ntmps73
    go_wp2_with (first | ((with_reducible refine gate_callee (f := 72) rfl ?_); refine goesL_ (some 5) rfl rfl Tryd.func72 (by kernel_rfl) rfl #[.int .i32 a0] rfl (by (try simp only [List.map_toArray, List.map_cons, List.map_nil]); first | done | rfl | (simp only [List.length_drop, List.length_take]; rfl)) ?_; (with_reducible refine (runes_number.calls a0 t279 _ A2.out).mono ?_); rintro e w6 ⟨rfl, hb⟩; refine ⟨_, rfl, ?_⟩; have n0_ := Aside0.mk (below_step (by repeat (first | (with_reducible first | exact HB.out | apply below_alloc | apply pw_below_drewN | apply below_drew1) | exact HB.out)) hb); clear HB; have HB := n0_; clear n0_; (try clear hb); (try clear hb2); (try clear hk); (try clear hi)) | ((with_reducible refine gate_callee (f := 77) rfl ?_); refine goesL_ (some 7) rfl rfl Tryd.func77 (by kernel_rfl) rfl #[.int .i32 a0] rfl (by (try simp only [List.map_toArray, List.map_cons, List.map_nil]); first | done | rfl | (simp only [List.length_drop, List.length_take]; rfl)) ?_; (with_reducible refine (runes_is.calls a0 false _ A3.out).mono ?_); rintro e w' ⟨rfl, ⟨nd, rfl⟩⟩; refine ⟨_, rfl, ?_⟩))
    go_ret
    exact ⟨by first | rfl | (simp [errW_none, errW_some] <;> rfl) | (simp [*, errW_none, errW_some] <;> rfl), by repeat (first | (with_reducible first | exact HB.out | apply below_alloc | apply pw_below_drewN | apply below_drew1) | exact HB.out)⟩

-- NOT PRINTED: function 81 (runes_span_81)

-- NOT PRINTED: function 91 (runes_span_91)

-- NOT PRINTED: function 82 (runes_span_82)

/-! ### api_Range: function 48 -/
def api_Range.l0 : Nat → List (S56) → List (S56) → Int → Int → Option (Bool)
  | 0, _, _, _, _ => none
  | k + 1, x0, x1, x12, x13 => if x13 < x12 then (if 0 ≤ x13 then (if x13 < (x0.length : Int) then (if x13 < (x1.length : Int) then (if (!(((rd_T56 x0 x13).f0) == ((rd_T56 x1 x13).f0)) || (!(((rd_T56 x0 x13).f1) == ((rd_T56 x1 x13).f1)))) = true then (some false) else (api_Range.l0 k x0 x1 x12 (wrap64 (x13 + 1)))) else (none)) else (none)) else (none)) else (some true)
def api_Range.f (k : Nat) (l0 : List (S56)) (l1 : List (S56)) : Option (Bool) := if (l0.length : Int) = (l1.length : Int) then (api_Range.l0 k l0 l1 (l0.length : Int) 0) else (some false)
theorem api_Range.mono_l : ∀ k, (∀ y0 y1 y2 y3, LeO (api_Range.l0 k y0 y1 y2 y3) (api_Range.l0 (k + 1) y0 y1 y2 y3))
  | 0 => fun _ _ _ _ r h => by simp [api_Range.l0] at h
  | k + 1 => by
    have ih0 := api_Range.mono_l k
    · intro y0 y1 y2 y3
      unfold api_Range.l0
      repeat' first
      | (with_reducible exact ih0 _ _ _ _)
      | (with_reducible exact LeO.refl _)
      | (with_reducible exact LeO.none _)
      | (with_reducible refine LeO.ite ?_ ?_)
      | (with_reducible refine LeO.bind ?_ (fun _ => ?_))
      | exact ih0 _ _ _ _
      | exact LeO.none _
      | refine LeO.ite ?_ ?_
      | refine LeO.bind ?_ (fun _ => ?_)
theorem api_Range.mono : ∀ a0 a1 k, LeO (api_Range.f k a0 a1) (api_Range.f (k + 1) a0 a1) := by
  intro a0 a1 k
  have ih0 := api_Range.mono_l k
  unfold api_Range.f
  repeat' first
      | (with_reducible exact ih0 _ _ _ _)
      | (with_reducible exact LeO.refl _)
      | (with_reducible exact LeO.none _)
      | (with_reducible refine LeO.ite ?_ ?_)
      | (with_reducible refine LeO.bind ?_ (fun _ => ?_))
      | exact ih0 _ _ _ _
      | exact LeO.none _
      | refine LeO.ite ?_ ?_
      | refine LeO.bind ?_ (fun _ => ?_)
set_option maxHeartbeats 8000000 in
set_option maxRecDepth 100000 in
theorem api_Range.calls (k : Nat) (A0 : Option Addr) (c0 : Nat) (l0 : List (S56)) (A1 : Option Addr) (c1 : Nat) (l1 : List (S56)) (r : Bool) (w : World) (hr0 : Kd.C k56 w A0 l0.length l0) (hc0 : l0.length ≤ c0) (hr1 : Kd.C k56 w A1 l1.length l1) (hc1 : l1.length ≤ c1) (h : api_Range.f k l0 l1 = some r) :
    Calls Tryd.prog 48 #[.slice A0 l0.length c0, .slice A1 l1.length c1] w fun e w' => e = .returned (.bool r) ∧ Drawn0 w w' := by
  have hu56 := Tryd.underlying56
  have HR0 := Aside0.mk hr0
  have HC0 := Aside0.mk hc0
  clear hr0 hc0
  have HR1 := Aside0.mk hr1
  have HC1 := Aside0.mk hc1
  clear hr1 hc1
  have H : (if (l0.length : Int) = (l1.length : Int) then (api_Range.l0 k l0 l1 (l0.length : Int) 0) else (some false)) = some r := h
  clear h
  by_cases c3 : (l0.length : Int) = (l1.length : Int)
  · rw [if_pos c3] at H
    have c3b0 : ((l0.length : Int) == (l1.length : Int)) = true := beq_iff_eq.mpr c3
    have c3b1 : ((l0.length : Int) != (l1.length : Int)) = false := bne_eq_false_iff_eq.mpr c3
    have c3b2 : (l0.length == l1.length) = true := by first | simpa using c3 | (simp at c3 ⊢; omega)
    clear c3
    have H' := Aside0.mk H
    clear H
    go_enter Tryd.func48, Tryd.ntmps48
    go_wp2
    repeat (go_quiet (fail); try go_wp2)
    go_loopg [13] k (fun kq v13 w' => ∃ (x13_1 : Int), v13 = .int .i64 x13_1 ∧ Aside0 (api_Range.l0 kq l0 l1 (l0.length : Int) x13_1 = some r) ∧ Aside0 (kq ≤ k) ∧ Drawn0 w w')
    case atStart => exact ⟨(0), (by first | rfl | (simp; done) | (simp [*]; done)), H', ⟨Nat.le_refl _⟩, by repeat (first | exact Drawn0.refl _ | apply Drawn0.step)⟩
    case round =>
      clear H'
      try clear c1
      try clear p2
      try clear c3
      try clear c3b0
      try clear c3b1
      try clear c3b2
      obtain ⟨x13_1, rfl, HA, HK1, ⟨m1, rfl⟩⟩ := hrel
      cases gk with
      | zero => exact absurd HA.out (by simp [api_Range.l0])
      | succ k1 =>
        have H := HA.out
        clear HA
        simp only [api_Range.l0] at H
        by_cases c4 : x13_1 < (l0.length : Int)
        · rw [if_pos c4] at H
          have c4b0 : decide (x13_1 < (l0.length : Int)) = true := decide_eq_true c4
          clear c4
          by_cases c5 : 0 ≤ x13_1
          · rw [if_pos c5] at H
            have c5b0 : decide (0 ≤ x13_1) = true := decide_eq_true c5
            clear c5
            by_cases c6 : x13_1 < (l0.length : Int)
            · rw [if_pos c6] at H
              have c6b0 : decide (x13_1 < (l0.length : Int)) = true := decide_eq_true c6
              clear c6
              by_cases c7 : x13_1 < (l1.length : Int)
              · rw [if_pos c7] at H
                have c7b0 : decide (x13_1 < (l1.length : Int)) = true := decide_eq_true c7
                clear c7
                by_cases c8 : (!(((rd_T56 l0 x13_1).f0) == ((rd_T56 l1 x13_1).f0)) || (!(((rd_T56 l0 x13_1).f1) == ((rd_T56 l1 x13_1).f1)))) = true
                · rw [if_pos c8] at H
                  have c8b0 : (!(((rd_T56 l0 x13_1).f0) == ((rd_T56 l1 x13_1).f0)) || (!(((rd_T56 l0 x13_1).f1) == ((rd_T56 l1 x13_1).f1)))) = true := c8
                  clear c8
                  obtain rfl := Option.some.inj H
                  have p270 : 0 ≤ (x13_1 : Int) := of_decide_eq_true (by first | (with_reducible assumption) | assumption)
                  have q270 : x13_1 < (l0.length : Int) := of_decide_eq_true (by first | (with_reducible assumption) | assumption)
                  obtain ⟨ad270, e270, hx270_0, hx270_1⟩ := at_T56 HR0.out x13_1 p270 q270
                  cases e270
                  replace p270 := eq_true p270
                  replace q270 := eq_true q270
                  have p271 : 0 ≤ (x13_1 : Int) := of_decide_eq_true (by first | (with_reducible assumption) | assumption)
                  have q271 : x13_1 < (l1.length : Int) := of_decide_eq_true (by first | (with_reducible assumption) | assumption)
                  obtain ⟨ad271, e271, hx271_0, hx271_1⟩ := at_T56 HR1.out x13_1 p271 q271
                  cases e271
                  replace p271 := eq_true p271
                  replace q271 := eq_true q271
                  by_cases e0 : (rd_T56 l0 x13_1).f0 = (rd_T56 l1 x13_1).f0
                  all_goals (by_cases e1 : (rd_T56 l0 x13_1).f1 = (rd_T56 l1 x13_1).f1)
                  all_goals (first | (simp [e0, e1] at c8b0; done) | (go_wp2; repeat (go_quiet (fail); try go_wp2); go_ret; exact ⟨by first | rfl | (simp; done) | (simp [*]; done), by repeat (first | exact Drawn0.refl _ | apply Drawn0.step)⟩))
                · rw [if_neg c8] at H
                  have c8b0 : (!(((rd_T56 l0 x13_1).f0) == ((rd_T56 l1 x13_1).f0)) || (!(((rd_T56 l0 x13_1).f1) == ((rd_T56 l1 x13_1).f1)))) = false := by simpa using c8
                  obtain ⟨e0, e1⟩ : (rd_T56 l0 x13_1).f0 = (rd_T56 l1 x13_1).f0 ∧ (rd_T56 l0 x13_1).f1 = (rd_T56 l1 x13_1).f1 := by simpa using c8b0
                  clear c8
                  have H' := Aside0.mk H
                  clear H
                  have p270 : 0 ≤ (x13_1 : Int) := of_decide_eq_true (by first | (with_reducible assumption) | assumption)
                  have q270 : x13_1 < (l0.length : Int) := of_decide_eq_true (by first | (with_reducible assumption) | assumption)
                  obtain ⟨ad270, e270, hx270_0, hx270_1⟩ := at_T56 HR0.out x13_1 p270 q270
                  cases e270
                  replace p270 := eq_true p270
                  replace q270 := eq_true q270
                  have p271 : 0 ≤ (x13_1 : Int) := of_decide_eq_true (by first | (with_reducible assumption) | assumption)
                  have q271 : x13_1 < (l1.length : Int) := of_decide_eq_true (by first | (with_reducible assumption) | assumption)
                  obtain ⟨ad271, e271, hx271_0, hx271_1⟩ := at_T56 HR1.out x13_1 p271 q271
                  cases e271
                  replace p271 := eq_true p271
                  replace q271 := eq_true q271
                  go_wp2
                  repeat (go_quiet (fail); try go_wp2)
                  go_roundg k1
                  case measure => have := HK1.out; omega
                  case rel => exact ⟨(wrap64 (x13_1 + 1)), (by first | rfl | (simp; done) | (simp [*]; done)), H', ⟨by have := HK1.out; omega⟩, by repeat (first | exact Drawn0.refl _ | apply Drawn0.step)⟩
              · rw [if_neg c7] at H
                exact absurd H (by simp)
            · rw [if_neg c6] at H
              exact absurd H (by simp)
          · rw [if_neg c5] at H
            exact absurd H (by simp)
        · rw [if_neg c4] at H
          have c4b0 : decide (x13_1 < (l0.length : Int)) = false := decide_eq_false c4
          clear c4
          obtain rfl := Option.some.inj H
          go_wp2
          repeat (go_quiet (fail); try go_wp2)
          go_ret
          exact ⟨by first | rfl | (simp; done) | (simp [*]; done), by repeat (first | exact Drawn0.refl _ | apply Drawn0.step)⟩
  · rw [if_neg c3] at H
    have c3b0 : ((l0.length : Int) == (l1.length : Int)) = false := beq_eq_false_iff_ne.mpr c3
    have c3b1 : ((l0.length : Int) != (l1.length : Int)) = true := bne_iff_ne.mpr c3
    have c3b2 : (l0.length == l1.length) = false := by first | simpa using c3 | (simp at c3 ⊢; omega)
    obtain rfl := Option.some.inj H
    go_enter Tryd.func48, Tryd.ntmps48
    go_wp2
    repeat (go_quiet (fail); try go_wp2)
    go_ret
    exact ⟨by first | rfl | (simp; done) | (simp [*]; done), by repeat (first | exact Drawn0.refl _ | apply Drawn0.step)⟩
end Go.Proofs.YthdfmbmbjpmlaaaDoor.Rn
/- ranges that are read; is a rune a scalar value -/
set_option linter.unusedVariables false
set_option linter.unusedSimpArgs false
namespace Go.Proofs.YthdfmbmbjpmlaaaDoor.Rn
open Go Go.RowKit Go.Proofs.YthdfmbmbjpmlaaaDoorW.PrintWords Go.Proofs.YthdfmbmbjpmlaaaDoorW.PrintLast Go.Proofs.YthdfmbmbjpmlaaaDoorW.PrintMore
abbrev Rg := S56
def inR (r : Int) (x : Rg) : Bool := decide (x.f0 ≤ r) && decide (r ≤ x.f1)
theorem blk_lt' {w : World} {a : Addr} {v : Value} (h : w.cell? a = some v) : a.block < w.heap.size := World.block_lt_of_cell? w _ h
theorem join_below {w W W' : World} (h : Below w.heap.size w W) (hb : Below W.heap.size W W') : Below w.heap.size w W' := h.trans (hb.mono h.size)
theorem below1 (w : World) (o : Obj) : Below w.heap.size w (w.alloc o) := (Below.refl _ _).alloc (Nat.le_refl _) _
theorem cell_spot {w : World} {b o : Nat} {sp : Option Nat} {v : Value} (h : w.cell? ⟨b, o, sp⟩ = some v) : sp = none := by
  cases sp with
  | none => rfl
  | some s =>
    unfold World.cell? at h
    split at h <;> simp_all
/-- a row of ranges that is read, by plain addresses -/
theorem rg_cells {w : World} {A : Option Addr} {xs : List Rg} (h : k56.C w A xs.length xs) (hn : 0 < xs.length) :
    ∃ g o, A = some ⟨g, o, none⟩ ∧ g < w.heap.size ∧ ∀ j x, xs[j]? = some x → w.cell? ⟨g, o + j * 2, none⟩ = some (.int .i32 x.f0) ∧ w.cell? ⟨g, o + j * 2 + 1, none⟩ = some (.int .i32 x.f1) := by
  obtain ⟨ad, rfl, hc⟩ := h.2.2 hn
  obtain ⟨g, o, sp⟩ := ad
  have h0 : ∃ v, w.cell? ⟨g, o, sp⟩ = some v := by
    obtain ⟨c, hl, hR, hcc⟩ := hc 0 xs[0] (by simp)
    have hR' := k56_open hR
    subst hR'
    have h1 := hcc 0 _ rfl
    exact ⟨_, by simpa [Addr.add, Nat.zero_mul] using h1⟩
  obtain ⟨v, hv⟩ := h0
  obtain rfl := cell_spot hv
  refine ⟨g, o, rfl, World.block_lt_of_cell? w _ hv, fun j x hx => ?_⟩
  obtain ⟨c, hl, hR, hcc⟩ := hc j x hx
  have hR' := k56_open hR
  subst hR'
  have hk : ∀ i u, ([.int .i32 x.f0, .int .i32 x.f1] : List Value)[i]? = some u → w.cell? ⟨g, o + j * 2 + i, none⟩ = some u := fun i u hu => by
    have := hcc i u hu
    rw [add_at] at this
    rw [Nat.add_assoc]
    exact this
  exact ⟨hk 0 _ rfl, hk 1 _ rfl⟩
/-- is it a scalar value -/
def isS (r : Int) : Bool := (decide (0 ≤ r) && decide (r < 55296)) || (decide (57343 < r) && decide (r ≤ 1114111))
theorem is_f (r : Int) : runes_is.f r = some (isS r) := by
  unfold runes_is.f isS
  by_cases h1 : r ≥ 0
  · rw [if_pos h1]
    by_cases h2 : r < 55296
    · rw [if_pos h2]
      simp [h2, show 0 ≤ r from h1]
    · rw [if_neg h2]
      by_cases h3 : r > 57343
      · rw [if_pos h3]
        simp [h2, show 57343 < r from h3]
      · rw [if_neg h3]
        simp [h2, show ¬ 57343 < r from h3]
  · rw [if_neg h1]
    have h3 : ¬ r > 57343 := by omega
    rw [if_neg h3]
    simp [show ¬ 0 ≤ r from h1, show ¬ 57343 < r from h3]
def hasS (l : List Rg) (r : Int) : Bool := isS r && l.any (inR r)
end Go.Proofs.YthdfmbmbjpmlaaaDoor.Rn
/- Tools of my own for walks: a class of later worlds, drawing regions by hand, an append whose result is written out. -/
set_option linter.unusedVariables false
set_option linter.unusedSimpArgs false
namespace Go.Proofs.YthdfmbmbjpmlaaaDoor.Rn
open Go Go.RowKit Go.Proofs.YthdfmbmbjpmlaaaDoorW.PrintWords Go.Proofs.YthdfmbmbjpmlaaaDoorW.PrintLast Go.Proofs.YthdfmbmbjpmlaaaDoorW.PrintMore
/-- a world behind w -/
structure Later (w : World) where
  wx : World
  below : Below w.heap.size w wx
instance (w : World) : Inhabited (Later w) := ⟨⟨w, Below.refl _ _⟩⟩
theorem hall1 {P : Program} {ops : Array Oper} {md : Region.Mode} {Q : Exit → Act → World → Prop} {S : World → Prop} {i : Nat} {o : Oper} {fuel : Nat} {listed : Array Bool} {a : Act} {w : World} (hr : Region.ready md ops listed = [i]) (hi : ops[i]? = some o)
    (h : ∀ K : Act → World → Prop, (∀ a' w', S w' → wpAnyH P md ops Q S fuel (listed.setIfInBounds i true) a' w' → K a' w') → if Region.wanted o (yielded ops a.tmps) = true then o.wp P a w K Q else K (a.put o.dst undef) w) : wpAnyH P md ops Q S (fuel + 1) listed a w := by
  refine wpAnyH_all hr (by simp) (fun j hj => ?_)
  obtain rfl := List.mem_singleton.1 hj
  have h2 := h (fun a' w' => S w' ∧ wpAnyH P md ops Q S fuel (listed.setIfInBounds j true) a' w') (fun a' w' hs hh => ⟨hs, hh⟩)
  unfold wpOp
  simp only [hi]
  by_cases hw : Region.wanted o (yielded ops a.tmps) = true
  · rw [if_pos hw] at h2 ⊢
    exact .inl h2
  · rw [if_neg hw] at h2 ⊢
    exact h2
theorem hall2 {P : Program} {ops : Array Oper} {md : Region.Mode} {Q : Exit → Act → World → Prop} {S : World → Prop} {i j : Nat} {o u : Oper} {fuel : Nat} {listed : Array Bool} {a : Act} {w : World} (hr : Region.ready md ops listed = [i, j]) (hi : ops[i]? = some o) (hj : ops[j]? = some u)
    (h : ∀ K : Act → World → Prop, (∀ a' w', S w' → wpAnyH P md ops Q S fuel (listed.setIfInBounds i true) a' w' → K a' w') → if Region.wanted o (yielded ops a.tmps) = true then o.wp P a w K Q else K (a.put o.dst undef) w)
    (k : ∀ K : Act → World → Prop, (∀ a' w', S w' → wpAnyH P md ops Q S fuel (listed.setIfInBounds j true) a' w' → K a' w') → if Region.wanted u (yielded ops a.tmps) = true then u.wp P a w K Q else K (a.put u.dst undef) w) : wpAnyH P md ops Q S (fuel + 1) listed a w := by
  refine wpAnyH_all hr (by simp) (fun m hm => ?_)
  rcases List.mem_cons.1 hm with rfl | hm
  · have h2 := h (fun a' w' => S w' ∧ wpAnyH P md ops Q S fuel (listed.setIfInBounds m true) a' w') (fun a' w' hs hh => ⟨hs, hh⟩)
    unfold wpOp
    simp only [hi]
    by_cases hw : Region.wanted o (yielded ops a.tmps) = true
    · rw [if_pos hw] at h2 ⊢
      exact .inl h2
    · rw [if_neg hw] at h2 ⊢
      exact h2
  · obtain rfl := List.mem_singleton.1 hm
    have h2 := k (fun a' w' => S w' ∧ wpAnyH P md ops Q S fuel (listed.setIfInBounds m true) a' w') (fun a' w' hs hh => ⟨hs, hh⟩)
    unfold wpOp
    simp only [hj]
    by_cases hw : Region.wanted u (yielded ops a.tmps) = true
    · rw [if_pos hw] at h2 ⊢
      exact .inl h2
    · rw [if_neg hw] at h2 ⊢
      exact h2
theorem takeQ {P : Program} {ops : Array Oper} {md : Region.Mode} {Q : Exit → Act → World → Prop} {S : World → Prop} {i : Nat} {o : Oper} {fuel : Nat} {listed : Array Bool} {a : Act} {w : World} (hi : ops[i]? = some o)
    (hs : Region.noSelect ops = true) (hf : Region.free md ops listed i = true) (hr : (Region.ready md ops listed).contains i = true) (hQ2 : ∀ v c a w, Q (.panic c) (a.put o.dst v) w → Q (.panic c) a w) (hS : S w)
    (h : ∀ K : Act → Prop, (∀ a', wpAnyH P md ops Q S fuel (listed.setIfInBounds i true) a' w → K a') → if Region.wanted o (yielded ops a.tmps) = true then ∃ v, (∀ w', S w' → (execOp a.eval o).run P w' = .ok (.value v) w') ∧ K (a.put o.dst v) else K (a.put o.dst undef)) : wpAnyH P md ops Q S (fuel + 1) listed a w := by
  have h2 := h (fun a' => wpAnyH P md ops Q S fuel (listed.setIfInBounds i true) a' w) (fun _ hh => hh)
  by_cases hw : Region.wanted o (yielded ops a.tmps) = true
  · rw [if_pos hw] at h2
    obtain ⟨v, hv, hk⟩ := h2
    exact wpAnyH_take hi hs hf hr (hQ2 v) (.inl ⟨hw, hv⟩) hS hk
  · rw [if_neg hw] at h2
    exact wpAnyH_take hi hs hf hr (hQ2 undef) (.inr ⟨by simpa using hw, rfl⟩) hS h2
section
variable {P : Program} {ops : Array Oper} {rest : List Oper} {o : Oper} {a : Act} {Q : Exit → Act → World → Prop} {α : Type}
theorem R_appendS (d : Kd α) {w0 W : World} (base : Nat) (hgd : o.guard = none) (s x : Operand) (t e : TypeId) (z : Value) (bytes : Nat)
    (ho : o.op = .call { callee := .builtin .append, args := #[s, x], argTypes := #[t, t] })
    (ht : P.underlying t = some (.slice e)) (hinfo : (P.info? e).map (fun i => (i.zero, i.size, i.bytes)) = some (some z, d.sz, bytes)) (hz : z.cells.size = d.sz) (hs0 : 0 < d.sz) (hb0 : 0 < bytes)
    (v : Value) (xs : List α) (p : α) (cs : List Value) (ok okp : Nat → Prop) (hs : a.eval s = v) (hx : a.eval x = .slice (some ⟨W.heap.size, 0, none⟩) 1 1) (hp : d.M W base okp p cs) (hokp : ∀ k, okp k → ok k ∧ some k ≠ v.ownBlock) (hfresh : ∀ k, W.heap.size ≤ k → ok k)
    (HO : d.R e W base ok v xs) (HB : Below base w0 W) (hbase : base ≤ W.heap.size) (hl : (xs.length + 1) * bytes ≤ 140737488355328)
    (h : ∀ A1 c1 w1, d.R e w1 base ok (.slice A1 (xs.length + 1) c1) (xs ++ [p]) → Below base w0 w1 → W.grownBy w1 v.ownBlock → ((Value.slice A1 (xs.length + 1) c1).ownBlock = v.ownBlock ∨ ∃ b, (Value.slice A1 (xs.length + 1) c1).ownBlock = some b ∧ W.heap.size ≤ b) → wpList P ops Q rest (a.put o.dst (.slice A1 (xs.length + 1) c1)) w1) :
    wpList P ops Q (o :: rest) a (W.alloc (.cells cs.toArray e)) := by
  refine Kd.R_append d base hgd s x t e z bytes ho ht hinfo hz hs0 hb0 v xs p cs ok okp hs hx hp hokp hfresh HO HB hbase hl ?_
  intro v1 w1 hR hB hG hN
  obtain ⟨A1, c1, rfl⟩ := Kd.R_slice hR
  rw [List.length_append, List.length_singleton] at *
  exact h A1 c1 w1 hR hB hG hN
end
/-! blocks known whole -/
theorem cell_after {w W : World} {a : Addr} {v : Value} (h : Below w.heap.size w W) (hc : w.cell? a = some v) : W.cell? a = some v := (h.cell (p := a) (blk_lt' hc)).trans hc
end Go.Proofs.YthdfmbmbjpmlaaaDoor.Rn
/- rows of structs of any kind, read by plain addresses; what IndexFunc and ContainsFunc come to. -/
set_option linter.unusedVariables false
set_option linter.unusedSimpArgs false
namespace Go.Proofs.YthdfmbmbjpmlaaaDoor.Rn
open Go Go.RowKit Go.Proofs.YthdfmbmbjpmlaaaDoorW.PrintWords Go.Proofs.YthdfmbmbjpmlaaaDoorW.PrintLast Go.Proofs.YthdfmbmbjpmlaaaDoorW.PrintMore
/-- a row that is read, by plain addresses -/
theorem row_cells {α : Type} {k : Kd α} {w : World} {A : Option Addr} {xs : List α} (h : k.C w A xs.length xs) (hn : 0 < xs.length) (hsz : 0 < k.sz) :
    ∃ g o, A = some ⟨g, o, none⟩ ∧ g < w.heap.size ∧ ∀ j x, xs[j]? = some x → ∃ cs, cs.length = k.sz ∧ k.K w x cs ∧ ∀ i u, cs[i]? = some u → w.cell? ⟨g, o + j * k.sz + i, none⟩ = some u := by
  obtain ⟨ad, rfl, hc⟩ := h.2.2 hn
  obtain ⟨g, o, sp⟩ := ad
  have h0 : ∃ v, w.cell? ⟨g, o, sp⟩ = some v := by
    obtain ⟨c, hl, hR, hcc⟩ := hc 0 xs[0] (by simp)
    have h1 := hcc 0 c[0] (by simp)
    exact ⟨_, by simpa [Addr.add, Nat.zero_mul] using h1⟩
  obtain ⟨v, hv⟩ := h0
  obtain rfl := cell_spot hv
  refine ⟨g, o, rfl, World.block_lt_of_cell? w _ hv, fun j x hx => ?_⟩
  obtain ⟨c, hl, hR, hcc⟩ := hc j x hx
  refine ⟨c, hl, hR, fun i u hu => ?_⟩
  have := hcc i u hu
  rw [add_at] at this
  rw [Nat.add_assoc]
  exact this
/-- what a function value comes to: found, or not -/
def CbPost (J I : World → Prop) (e : Ending) (w' : World) : Prop := (e = .returned (.bool true) ∧ J w') ∨ (e = .returned (.bool false) ∧ I w')
def IdxPost (n : Nat) (I J : Nat → World → Prop) (e : Ending) (w' : World) : Prop := (∃ i : Nat, i < n ∧ e = .returned (.int .i64 i) ∧ J i w') ∨ (e = .returned (.int .i64 (-1)) ∧ I n w')
def ConPost (n : Nat) (I J : Nat → World → Prop) (e : Ending) (w' : World) : Prop := (e = .returned (.bool true) ∧ ∃ i : Nat, i < n ∧ J i w') ∨ (e = .returned (.bool false) ∧ I n w')
/-- a cell that a call keeps, which may write into one block alone -/
theorem grown_cell {w w' : World} {b : Nat} (hg : w.grownBy w' (some b)) {a : Addr} {v : Value} (h : w.cell? a = some v) (hne : a.block ≠ b) : w'.cell? a = some v := hg.cell h (fun e => hne (Option.some.inj e))
theorem grown_lt {w w' : World} {r : Option Nat} (hg : w.grownBy w' r) {n : Nat} (h : n < w.heap.size) : n < w'.heap.size := Nat.lt_of_lt_of_le h hg.size
end Go.Proofs.YthdfmbmbjpmlaaaDoor.Rn
/- gram: a token by its name; the court's must and class. -/
set_option linter.unusedVariables false
set_option linter.unusedSimpArgs false
namespace Go.Proofs.YthdfmbmbjpmlaaaDoor.Rn
open Go Go.RowKit Go.Proofs.YthdfmbmbjpmlaaaDoorW.PrintWords Go.Proofs.YthdfmbmbjpmlaaaDoorW.PrintLast Go.Proofs.YthdfmbmbjpmlaaaDoorW.PrintMore
abbrev Tok := S50
abbrev kTok := k50
abbrev Rul := S32
abbrev kRul := k32
set_option maxHeartbeats 1000000 in
set_option maxRecDepth 100000 in
theorem find_index (xs : List S50) (A : Option Addr) (c : Nat) (bn : Nat) (I J : Nat → World → Prop) (w0 w : World) (hC : k50.C w0 A xs.length xs) (hB : ∀ i W, I i W → Below w0.heap.size w0 W)
    (hstep : ∀ i x cs W, xs[i]? = some x → I i W → k50.K w0 x cs → Calls Tryd.prog 34 #[.agg cs.toArray, .pointer (some ⟨bn, 0, none⟩)] W (CbPost (J i) (I (i + 1)))) (h0 : I 0 w) :
    Calls Tryd.prog 33 #[.slice A xs.length c, .func (.func 34) #[] #[.pointer (some ⟨bn, 0, none⟩)]] w (IdxPost xs.length I J) := by
  have hl : xs.length ≤ 9223372036854775807 := hC.2.1
  have HC := Aside0.mk hC
  have HB := Aside0.mk hB
  have HS := Aside0.mk hstep
  have H0 := Aside0.mk h0
  clear hC hB hstep h0
  go_enter Tryd.func33, Tryd.ntmps33
  go_wp2
  go_loopw [8] (fun i W => ∃ k : Nat, i = .int .i64 k ∧ k ≤ xs.length ∧ Aside0 (I k W)) (fun i _ => xs.length - (intOf i).toNat)
  case atStart => exact ⟨0, rfl, Nat.zero_le _, H0⟩
  case round =>
    obtain ⟨k, rfl, hkl, HI⟩ := hrel
    by_cases hlt : k < xs.length
    · obtain ⟨g, o, rfl, _, hcell⟩ := row_cells HC.out (by omega) (by decide)
      obtain ⟨x, hx⟩ : ∃ x, xs[k]? = some x := ⟨_, List.getElem?_eq_getElem hlt⟩
      obtain ⟨cs, hcl, hK, hcc⟩ := hcell k x hx
      have HK := Aside0.mk hK
      obtain ⟨A4, c4, A5, c5, rfl, l4, g4, l5, g5⟩ := k50_open hK
      have y0 := cell_after (HB.out k _ HI.out) (hcc 0 (.string x.f0) rfl)
      rw [Nat.add_zero] at y0
      have y1 := cell_after (HB.out k _ HI.out) (hcc 1 (.int .i64 x.f1) rfl)
      have y2 := cell_after (HB.out k _ HI.out) (hcc 2 (.int .i64 x.f2) rfl)
      have y3 := cell_after (HB.out k _ HI.out) (hcc 3 (.int .i64 x.f3.f0) rfl)
      have y4 := cell_after (HB.out k _ HI.out) (hcc 4 (.slice A4 x.f3.f1.length c4) rfl)
      have y5 := cell_after (HB.out k _ HI.out) (hcc 5 (.slice A5 x.f3.f2.length c5) rfl)
      simp only [show k50.sz = 6 from rfl] at y0 y1 y2 y3 y4 y5
      have HX := Aside0.mk hx
      clear hcell hcc hx hK hcl
      go_wp2_with fail
      refine (HS.out k x _ _ HX.out HI.out HK.out).mono ?_
      rintro e w2 hp
      rcases hp with ⟨rfl, hj⟩ | ⟨rfl, hi⟩
      · have HJ := Aside0.mk hj
        clear hj
        go_wp2
        go_ret
        exact Or.inl ⟨k, hlt, rfl, HJ.out⟩
      · have HI2 := Aside0.mk hi
        clear hi
        go_wp2
        go_roundw
        case rel => exact ⟨k + 1, by go_num, by omega, HI2⟩
        case measure => simp [intOf]; omega
    · obtain ⟨n, hn⟩ : ∃ n, xs.length = n := ⟨_, rfl⟩
      have e : k = xs.length := by omega
      have HI2 : Aside0 (I xs.length _) := ⟨e ▸ HI.out⟩
      clear e hn n
      go_wp2
      go_ret
      exact Or.inr ⟨rfl, HI2.out⟩
theorem toList_loop (s : ByteArray) (d : Nat) : ∀ (i : Nat) (r : List UInt8), s.size - i = d → ByteArray.toList.loop s i r = r.reverse ++ s.data.toList.drop i := by
  induction d with
  | zero =>
    intro i r h
    have hl : s.data.toList.length ≤ i := by
      have e : s.data.toList.length = s.size := by simp
      omega
    rw [ByteArray.toList.loop.eq_1, if_neg (by omega), List.drop_of_length_le hl, List.append_nil]
  | succ d ih =>
    intro i r h
    have hi : i < s.size := by omega
    have hl : i < s.data.toList.length := by simpa using hi
    rw [ByteArray.toList.loop.eq_1, if_pos hi, ih (i + 1) _ (by omega), List.drop_eq_getElem_cons hl, List.reverse_cons, List.append_assoc]
    congr 2
    have hg : s.get! i = s.data.toList[i] := by
      simp [ByteArray.get!, hi]
    rw [hg]
    rfl
theorem text_data (s : ByteArray) : s.toList = s.data.toList := by
  rw [ByteArray.toList.eq_1, toList_loop s _ 0 [] rfl]
  simp
theorem text_ext {a b : ByteArray} (h : a.toList = b.toList) : a = b := by
  rw [text_data, text_data] at h
  exact Go.WideShapes.bytes_inj h
/-- a token by its name; -1 -/
def findS : List Tok → ByteArray → Nat → Int
  | [], _, _ => -1
  | t :: r, s, i => if t.f0 = s then (i : Int) else findS r s (i + 1)
theorem findS_skip (s : ByteArray) : ∀ (T : List Tok) (k i : Nat), k ≤ T.length → (∀ j (t : Tok), j < k → T[j]? = some t → t.f0 ≠ s) → findS T s i = findS (T.drop k) s (i + k)
  | T, 0, i, _, _ => rfl
  | [], k + 1, i, h, _ => by simp at h
  | t :: T, k + 1, i, h, hn => by
    have h0 := hn 0 t (Nat.succ_pos _) rfl
    show (if t.f0 = s then (i : Int) else findS T s (i + 1)) = findS (T.drop k) s (i + (k + 1))
    rw [if_neg h0, findS_skip s T k (i + 1) (by simpa using h) (fun j u hj hu => hn (j + 1) u (by omega) hu)]
    congr 1
    omega
theorem findS_at {s : ByteArray} {T : List Tok} {k : Nat} {t : Tok} (ht : T[k]? = some t) (he : t.f0 = s) (hn : ∀ j (t : Tok), j < k → T[j]? = some t → t.f0 ≠ s) : findS T s 0 = k := by
  have hk := (List.getElem?_eq_some_iff.1 ht).1
  rw [findS_skip s T k 0 (by omega) hn, List.drop_eq_getElem_cons hk]
  have e : T[k] = t := (List.getElem?_eq_some_iff.1 ht).2
  rw [e]
  show (if t.f0 = s then ((0 + k : Nat) : Int) else _) = _
  rw [if_pos he]
  simp
theorem findS_none {s : ByteArray} {T : List Tok} (hn : ∀ j (t : Tok), j < T.length → T[j]? = some t → t.f0 ≠ s) : findS T s 0 = -1 := by
  rw [findS_skip s T T.length 0 (Nat.le_refl _) hn, List.drop_length]
  rfl
set_option maxHeartbeats 1000000 in
set_option maxRecDepth 100000 in
theorem find_one (x : Tok) (s : ByteArray) (bn : Nat) (w0 W : World) (cs : List Value) (hK : kTok.K w0 x cs) (hn : W.cell? ⟨bn, 0, none⟩ = some (.string s)) :
    Calls Tryd.prog 34 #[.agg cs.toArray, .pointer (some ⟨bn, 0, none⟩)] W fun e W' => e = .returned (.bool (x.f0.toList == s.toList)) ∧ Below W.heap.size W W' := by
  obtain ⟨A4, c4, A5, c5, rfl, _, _, _, _⟩ := k50_open hK
  have hb : bn < W.heap.size := blk_lt' hn
  have hne : bn ≠ W.heap.size := by omega
  have yn : ∀ o, (W.alloc o).cell? ⟨bn, 0, none⟩ = some (.string s) := fun o => cell_after (below1 W o) hn
  clear hK hn hb
  go_enter Tryd.func34, Tryd.ntmps34
  go_wp2
  go_ret
  exact ⟨rfl, below1 W _⟩
set_option maxHeartbeats 1000000 in
set_option maxRecDepth 100000 in
theorem find_any (T : List Tok) (A0 A1 : Option Addr) (c0 c1 n1 : Nat) (s : ByteArray) (w : World) (hC : kTok.C w A0 T.length T) :
    Calls Tryd.prog 20 #[.agg #[.slice A0 T.length c0, .slice A1 n1 c1], .string s] w fun e w' => e = .returned (.int .i64 (findS T s 0)) ∧ Below w.heap.size w w' := by
  have hC' := Aside0.mk hC
  have hcell : ∀ o, ((w.alloc o).alloc (.cells #[.string s] 9)).cell? ⟨w.heap.size + 1, 0, none⟩ = some (.string s) := fun o => by
    have h := blk_new (w.alloc o) (.cells #[.string s] 9)
    have hsz : (w.alloc o).heap.size = w.heap.size + 1 := by simp
    rw [hsz] at h
    exact (blk_cell h 0).trans rfl
  have HC2 := Aside0.mk hcell
  clear hC hcell
  go_enter Tryd.func20, Tryd.ntmps20
  go_wp2_with fail
  obtain ⟨w2, hw2⟩ : ∃ w2, (w.alloc (.cells #[.slice A0 T.length c0, .slice A1 n1 c1] 26)).alloc (.cells #[.string s] 9) = w2 := ⟨_, rfl⟩
  have hB2 : Below w.heap.size w w2 := hw2 ▸ below_alloc (below1 w _) _
  have hn2 : w2.cell? ⟨w.heap.size + 1, 0, none⟩ = some (.string s) := hw2 ▸ HC2.out _
  rw [hw2]
  have hj : ∀ W, Below w2.heap.size w2 W → Below w.heap.size w W := fun W h => hB2.trans (h.mono hB2.size)
  refine (find_index T A0 c0 (w.heap.size + 1) (fun i W => Below w2.heap.size w2 W ∧ ∀ j (t : Tok), j < i → T[j]? = some t → t.f0 ≠ s) (fun i W => Below w2.heap.size w2 W ∧ findS T s 0 = i) w w2 hC'.out (fun i W h => hj W h.1) (fun i x cs W hx hI hK => ?_) ⟨Below.refl _ _, fun j t h => absurd h (Nat.not_lt_zero _)⟩).mono ?_
  · refine (find_one x s _ w W cs hK (cell_after hI.1 hn2)).mono ?_
    rintro e W2 ⟨rfl, hb2⟩
    have hb3 := join_below hI.1 hb2
    by_cases c : x.f0 = s
    · exact Or.inl ⟨by rw [beq_iff_eq.2 (congrArg ByteArray.toList c)], hb3, findS_at hx c hI.2⟩
    · refine Or.inr ⟨by rw [beq_eq_false_iff_ne.2 (fun e => c (text_ext e))], hb3, fun j t hj ht => ?_⟩
      by_cases e : j = i
      · subst e
        rw [hx] at ht
        obtain rfl := Option.some.inj ht
        exact c
      · exact hI.2 j t (by omega) ht
  · rintro e W2 hp
    rcases hp with ⟨i, hi, rfl, hb, hf⟩ | ⟨rfl, hb, hn⟩
    · have HR := Aside0.mk (And.intro hf (hj W2 hb))
      clear hf hb hn2 hB2 hw2 hj
      go_wp2
      go_ret
      rw [HR.out.1]
      exact ⟨rfl, HR.out.2⟩
    · have HR := Aside0.mk (And.intro (findS_none hn) (hj W2 hb))
      clear hn hb hn2 hB2 hw2 hj
      go_wp2
      go_ret
      rw [HR.out.1]
      exact ⟨rfl, HR.out.2⟩
/-- what is panicked with -/
def faultV (code wh : Int) : Value := .iface 67 (.agg #[.int .i64 code, .int .i64 wh])
/-- the court: of which grammar, and where -/
def CourtAt (bc : Nat) (AT : Option Addr) (T : List Tok) (ct : Nat) (AR : Option Addr) (R : List Rul) (cr : Nat) (wh : Int) (W : World) : Prop :=
  W.heap[bc]? = some (.cells #[.slice AT T.length ct, .slice AR R.length cr, .int .i64 wh] 71 (0, 0))
def CourtPost (wh : Int) (res : Option Int) (W : World) (e : Ending) (W' : World) : Prop :=
  Below W.heap.size W W' ∧ e = match res with | none => .returned (.tuple #[]) | some c => .panicked [{ v := faultV c wh, recovered := false }]
set_option maxHeartbeats 1000000 in
theorem must_any (bc : Nat) (AT : Option Addr) (T : List Tok) (ct : Nat) (AR : Option Addr) (R : List Rul) (cr : Nat) (wh : Int) (b : Bool) (code : Int) (W : World) (hc : CourtAt bc AT T ct AR R cr wh W) :
    Calls Tryd.prog 29 #[.pointer (some ⟨bc, 0, none⟩), .bool b, .int .i64 code] W (CourtPost wh (if b = true then none else some code) W) := by
  have y : W.cell? ⟨bc, 2, none⟩ = some (.int .i64 wh) := (blk_cell hc 2).trans rfl
  clear hc
  cases b
  · go_enter Tryd.func29, Tryd.ntmps29
    go_wp2
    exact ⟨rfl, Below.refl _ _, rfl⟩
  · go_enter Tryd.func29, Tryd.ntmps29
    go_wp2
    first | go_end0 | refine bodyPost_ret (results_none rfl _ _ _) rfl ?_
    exact ⟨Below.refl _ _, rfl⟩
end Go.Proofs.YthdfmbmbjpmlaaaDoor.Rn
namespace Go.Proofs.YthdfmbmbjpmlaaaDoor.Rn
open Go.RowKit Go.Proofs.YthdfmbmbjpmlaaaDoorW.PrintWords Go.Proofs.YthdfmbmbjpmlaaaDoorW.PrintLast Go.Proofs.YthdfmbmbjpmlaaaDoorW.PrintMore
attribute [local go_sem] max2_int min2_int max_two min_two max_three min_three max_four min_four   -- for this text's walks alone
set_option linter.unusedVariables false
set_option linter.unusedSimpArgs false
/-! ### gobolaw6_One: function 16 -/
def gobolaw6_One.f (a0 : Int) : Option (Int × (List (S56)) × (List (S48))) := some (2, (([(⟨a0, a0⟩ : S56)] : List (S56))), ([] : List (S48)))
set_option maxHeartbeats 8000000 in
set_option maxRecDepth 100000 in
theorem gobolaw6_One.calls (a0 : Int) (r1 : Int) (r2 : List (S56)) (r3 : List (S48)) (w : World) (h : gobolaw6_One.f a0 = some (r1, r2, r3)) :
    Calls Tryd.prog 16 #[.int .i32 a0] w fun e w' => ∃ v1_ v2_ : Value, e = .returned (.agg #[.int .i64 r1, v1_, v2_]) ∧ Kd.R k56 56 w' w.heap.size (fun _ => True) v1_ r2 ∧ Kd.R k48 48 w' w.heap.size (fun k_ => some k_ ≠ (v1_ : Value).ownBlock) v2_ r3 ∧ Below w.heap.size w w' := by
  have hu48 := Tryd.underlying48
  have hu56 := Tryd.underlying56
  have HB := Aside0.mk (Below.refl w.heap.size w)
  have H : (some (2, (([(⟨a0, a0⟩ : S56)] : List (S56))), ([] : List (S48)))) = some (r1, r2, r3) := h
  clear h
  obtain ⟨y102, hy102⟩ : ∃ y_ : List (S56), y_ = (([(⟨a0, a0⟩ : S56)] : List (S56))) := ⟨_, rfl⟩
  replace H : (some (2, y102, ([] : List (S48)))) = some (r1, r2, r3) := by first | (rw [hy102]; with_reducible exact H) | (have H2_ := (Option.bind_some _ _).symm.trans H; rw [hy102]; with_reducible exact H2_) | (have H2_ := (Option.bind_some _ _).symm.trans H; with_reducible exact H2_) | with_reducible exact H | (rw [hy102]; exact H) | exact H
  have Ny102 := Aside0.mk hy102
  clear hy102
  simp only [Option.some.injEq, Prod.mk.injEq] at H
  obtain ⟨rfl, rfl, rfl⟩ := H
  go_enter Tryd.func16, Tryd.ntmps16
  go_wp2_with (first | ((with_reducible refine gate_dst (N := 2) rfl ?_); refine box_event ?hg (N := 2) ?hd (cs := #[.int .i64 0, .slice none 0 0, .slice none 0 0]) (t := 48) ?hr ?_; (case hd => rfl); (case hg => rfl); (case hr => first | (go_simp; done) | (go_simp; rfl)); intro gb101 hg w2 hbox hb; have n0_ := Aside0.mk (below_step (by repeat (first | (with_reducible first | exact HB.out | apply below_alloc | apply pw_below_drewN | apply below_drew1) | exact HB.out)) hb); have n1_ := Aside0.mk (hbox); have n2_ := Aside0.mk ((by rw [hg]; exact (below_size (by repeat (first | (with_reducible first | exact HB.out | apply below_alloc | apply pw_below_drewN | apply below_drew1) | exact HB.out))) : w.heap.size ≤ gb101)); have n3_ := Aside0.mk ((by rw [hg]; exact (below_size (by repeat (first | (with_reducible first | exact HB.out | apply below_alloc | apply pw_below_drewN | apply below_drew1) | exact HB.out))) : w.heap.size ≤ gb101)); clear HB; have HB := n0_; have BK101 := n1_; have GW101 := n2_; have GE101 := n3_; clear n0_ n1_ n2_ n3_; clear hb hbox hg) | ((with_reducible refine gate_dst (N := 6) rfl ?_); refine Kd.R_lit k56 _ 56 ?hg (N := 6) ?hd (xs := ([(⟨a0, a0⟩ : S56)] : List (S56))) (inner := [.int .i32 a0, .int .i32 a0]) (ok := fun _ => True) (okp := fun _ => True) ?hr ?hp (fun _ hk => hk) trivial (Below.refl _ _) (Nat.le_refl _) (by simp) ?_; (case hd => rfl); (case hg => rfl); (case hr => first | (go_simp; done) | (go_simp; rfl)); (case hp => exact (Reps.c2 (show Kd.M k56 _ _ _ (⟨a0, a0⟩ : S56) [.int .i32 a0, .int .i32 a0] from (k56_mkM _ _ _ (⟨a0, a0⟩ : S56) )) (Reps.none _ _))); intro v103 w3 ho4 hb hg_ hnew_; clear hg_ hnew_; (first | rw [← Ny102.out] at ho4 | (simp only [Int.reduceToNat] at ho4; rw [← Ny102.out] at ho4)); have n0_ := Aside0.mk (Kd.R_lower ho4 (below_size (by repeat (first | (with_reducible first | exact HB.out | apply below_alloc | apply pw_below_drewN | apply below_drew1 | refine below_set ?_ GE101.out) | exact HB.out)))); have n1_ := Aside0.mk (blk_below (g := gb101) (o := .cells #[.int .i64 0, .slice none 0 0, .slice none 0 0] 48 (0, 0)) (by (with_reducible repeat (first | refine blk_drewN ?_ _ | refine blk_drew ?_ | refine blk_alloc ?_ _)); exact BK101.out) hb); have n2_ := Aside0.mk (below_step (by repeat (first | (with_reducible first | exact HB.out | apply below_alloc | apply pw_below_drewN | apply below_drew1 | refine below_set ?_ GE101.out) | exact HB.out)) hb); clear BK101; clear HB; have HO104 := n0_; have BK101 := n1_; have HB := n2_; clear n0_ n1_ n2_; clear hb ho4; obtain ⟨Ao5, co5, eo5⟩ := Kd.R_slice HO104.out; subst eo5; have hcz6_0 : w3.cell? ⟨gb101, 0, none⟩ = some (.int .i64 0) := (blk_cell BK101.out 0).trans rfl; have hcz6_1 : w3.cell? ⟨gb101, 1, none⟩ = some (.slice none 0 0) := (blk_cell BK101.out 1).trans rfl; have hcz6_2 : w3.cell? ⟨gb101, 2, none⟩ = some (.slice none 0 0) := (blk_cell BK101.out 2).trans rfl; have hfz6_0 := blk_frozen BK101.out 0; have hfz6_1 := blk_frozen BK101.out 1; have hfz6_2 := blk_frozen BK101.out 2))
  refine bodyPost_ret (results_cell_row rfl _ _ gb101 48 #[.int .i64 2, .slice Ao5 y102.length co5, .slice none 0 0] (0, 0) _ rfl (by (with_reducible repeat (first | refine blk_drewN ?_ _ | refine blk_drew ?_ | refine blk_alloc ?_ _)); refine blk_put (cs := #[.int .i64 2, .slice Ao5 y102.length co5, .slice none 0 0]) ?_ 2 _ rfl; (with_reducible repeat (first | refine blk_drewN ?_ _ | refine blk_drew ?_ | refine blk_alloc ?_ _)); refine blk_put (cs := #[.int .i64 2, .slice none 0 0, .slice none 0 0]) ?_ 1 _ rfl; (with_reducible repeat (first | refine blk_drewN ?_ _ | refine blk_drew ?_ | refine blk_alloc ?_ _)); refine blk_put (cs := #[.int .i64 0, .slice none 0 0, .slice none 0 0]) ?_ 0 _ rfl; (with_reducible repeat (first | refine blk_drewN ?_ _ | refine blk_drew ?_ | refine blk_alloc ?_ _)); exact BK101.out) Tryd.underlying48 rfl (by kernel_rfl)) rfl ?_
  exact ⟨_, _, by first | rfl | (simp [errW_none, errW_some] <;> rfl) | (simp [*, errW_none, errW_some] <;> rfl), by (with_reducible repeat (first | apply Kd.R_alloc | apply Kd.R_drewN | apply Kd.R_drew)); exact Kd.R_mono (Kd.R_far (p := ⟨gb101, 2, none⟩) (Kd.R_far (p := ⟨gb101, 1, none⟩) (Kd.R_far (p := ⟨gb101, 0, none⟩) (Kd.R_types HO104.out BK101.out (by decide)) (fun _ hk => hk.2) (.int .i64 2)) (fun _ hk => hk.2) (.slice Ao5 y102.length co5)) (fun _ hk => hk.2) (.slice none 0 0)) (fun _ hk => trivial), by first | exact Kd.R_nil _ _ _ _ _ | exact Kd.N_nil _ _ _ _ _ | exact Kd.V_nil _ _ _ _ _ | exact Kd.Q_nil _ _ _ _ _ | exact Kd.S_nil _ _ _ _ _, by repeat (first | (with_reducible first | exact HB.out | apply below_alloc | apply pw_below_drewN | apply below_drew1 | refine below_set ?_ GE101.out) | exact HB.out)⟩

/-! ### gram_Count: function 9 -/
mutual
def gram_Count.l0 : Nat → Int → Int → List (S37) → Int → Int → Option (Int × Int)
  | 0, _, _, _, _, _ => none
  | k + 1, x4, x5, x11, x12, x13 => if x13 < x12 then (if 0 ≤ x13 then (if x13 < (x11.length : Int) then ((gram_Count.f k ((rd_T37 x11 x13).f0) ((rd_T37 x11 x13).f1) ((rd_T37 x11 x13).f2) ((rd_T37 x11 x13).f3)).bind fun bt234 => (gram_Count.l0 k (wrap64 (x4 + bt234.1)) (mx x5 bt234.2) x11 x12 (wrap64 (x13 + 1)))) else (none)) else (none)) else (some (x4, wrap64 (x5 + 1)))
def gram_Count.f : Nat → Int → List ByteArray → List ByteArray → List (S37) → Option (Int × Int)
  | 0, _, _, _, _ => none
  | k + 1, a0_0, l0_1, l0_2, l0_3 => gram_Count.l0 k 1 0 l0_3 (l0_3.length : Int) 0
end
theorem gram_Count.mono_l : ∀ k, (∀ y0 y1 y2 y3, LeO (gram_Count.f k y0 y1 y2 y3) (gram_Count.f (k + 1) y0 y1 y2 y3)) ∧ (∀ y0 y1 y2 y3 y4, LeO (gram_Count.l0 k y0 y1 y2 y3 y4) (gram_Count.l0 (k + 1) y0 y1 y2 y3 y4))
  | 0 => ⟨fun _ _ _ _ r h => by simp [gram_Count.f] at h, fun _ _ _ _ _ r h => by simp [gram_Count.l0] at h⟩
  | k + 1 => by
    obtain ⟨ih0, ih1⟩ := gram_Count.mono_l k
    refine ⟨?_, ?_⟩
    · intro y0 y1 y2 y3
      unfold gram_Count.f
      repeat' first
      | (with_reducible exact ih0 _ _ _ _)
      | (with_reducible exact ih1 _ _ _ _ _)
      | (with_reducible exact LeO.refl _)
      | (with_reducible exact LeO.none _)
      | (with_reducible refine LeO.ite ?_ ?_)
      | (with_reducible refine LeO.bind ?_ (fun _ => ?_))
      | exact ih0 _ _ _ _
      | exact ih1 _ _ _ _ _
      | exact LeO.none _
      | refine LeO.ite ?_ ?_
      | refine LeO.bind ?_ (fun _ => ?_)
    · intro y0 y1 y2 y3 y4
      unfold gram_Count.l0
      repeat' first
      | (with_reducible exact ih0 _ _ _ _)
      | (with_reducible exact ih1 _ _ _ _ _)
      | (with_reducible exact LeO.refl _)
      | (with_reducible exact LeO.none _)
      | (with_reducible refine LeO.ite ?_ ?_)
      | (with_reducible refine LeO.bind ?_ (fun _ => ?_))
      | exact ih0 _ _ _ _
      | exact ih1 _ _ _ _ _
      | exact LeO.none _
      | refine LeO.ite ?_ ?_
      | refine LeO.bind ?_ (fun _ => ?_)
theorem gram_Count.mono : ∀ a0 a1 a2 a3 k, LeO (gram_Count.f k a0 a1 a2 a3) (gram_Count.f (k + 1) a0 a1 a2 a3) := by
  intro a0 a1 a2 a3 k
  obtain ⟨ih0, ih1⟩ := gram_Count.mono_l k
  exact ih0 a0 a1 a2 a3
set_option maxHeartbeats 8000000 in
set_option maxRecDepth 100000 in
theorem gram_Count.calls (k : Nat) : ∀ (a0_0 : Int) (A0_1 : Option Addr) (c0_1 : Nat) (l0_1 : List ByteArray) (A0_2 : Option Addr) (c0_2 : Nat) (l0_2 : List ByteArray) (A0_3 : Option Addr) (c0_3 : Nat) (l0_3 : List (S37)) (r1 : Int) (r2 : Int) (w : World) (hr0_1 : Kd.C Kd.string w A0_1 l0_1.length l0_1) (hc0_1 : l0_1.length ≤ c0_1) (hr0_2 : Kd.C Kd.string w A0_2 l0_2.length l0_2) (hc0_2 : l0_2.length ≤ c0_2) (hr0_3 : Kd.C k37 w A0_3 l0_3.length l0_3) (hc0_3 : l0_3.length ≤ c0_3) (h : gram_Count.f k a0_0 l0_1 l0_2 l0_3 = some (r1, r2)),
    Calls Tryd.prog 9 #[.agg #[.int .i64 a0_0, .slice A0_1 l0_1.length c0_1, .slice A0_2 l0_2.length c0_2, .slice A0_3 l0_3.length c0_3]] w fun e w' => e = .returned (.tuple #[.int .i64 r1, .int .i64 r2]) ∧ Below w.heap.size w w' := by
  induction k using Nat.strongRecOn with
  | _ k ih =>
  intro a0_0 A0_1 c0_1 l0_1 A0_2 c0_2 l0_2 A0_3 c0_3 l0_3 r1 r2 w hr0_1 hc0_1 hr0_2 hc0_2 hr0_3 hc0_3 h
  cases k with
  | zero => exact absurd h (by simp [gram_Count.f])
  | succ k =>
  simp only [gram_Count.f] at h
  have hu37 := Tryd.underlying37
  have HR0_1 := Aside0.mk hr0_1
  have HC0_1 := Aside0.mk hc0_1
  clear hr0_1 hc0_1
  have HR0_2 := Aside0.mk hr0_2
  have HC0_2 := Aside0.mk hc0_2
  clear hr0_2 hc0_2
  have HR0_3 := Aside0.mk hr0_3
  have HC0_3 := Aside0.mk hc0_3
  clear hr0_3 hc0_3
  have HB := Aside0.mk (Below.refl w.heap.size w)
  have H : (gram_Count.l0 k 1 0 l0_3 (l0_3.length : Int) 0) = some (r1, r2) := h
  clear h
  have H' := Aside0.mk H
  clear H
  go_enter Tryd.func9, Tryd.ntmps9
  go_wp2_with (first | ((with_reducible refine gate_dst (N := 1) rfl ?_); refine box_event ?hg (N := 1) ?hd (cs := #[.int .i64 a0_0, .slice A0_1 l0_1.length c0_1, .slice A0_2 l0_2.length c0_2, .slice A0_3 l0_3.length c0_3]) (t := 37) ?hr ?_; (case hd => rfl); (case hg => rfl); (case hr => first | (go_simp; done) | (go_simp; rfl)); intro gb231 hg w2 hbox hb; have n0_ := Aside0.mk (below_step (by repeat (first | (with_reducible first | exact HB.out | apply below_alloc | apply pw_below_drewN | apply below_drew1) | exact HB.out)) hb); have n1_ := Aside0.mk (hbox); have n2_ := Aside0.mk ((by rw [hg]; exact (below_size (by repeat (first | (with_reducible first | exact HB.out | apply below_alloc | apply pw_below_drewN | apply below_drew1) | exact HB.out))) : w.heap.size ≤ gb231)); have n3_ := Aside0.mk ((by rw [hg]; exact (below_size (by repeat (first | (with_reducible first | exact HB.out | apply below_alloc | apply pw_below_drewN | apply below_drew1) | exact HB.out))) : w.heap.size ≤ gb231)); clear HB; have HB := n0_; have BK231 := n1_; have GW231 := n2_; have GE231 := n3_; clear n0_ n1_ n2_ n3_; clear hb hbox hg; have hcz3_0 : w2.cell? ⟨gb231, 0, none⟩ = some (.int .i64 a0_0) := (blk_cell BK231.out 0).trans rfl; have hcz3_1 : w2.cell? ⟨gb231, 1, none⟩ = some (.slice A0_1 l0_1.length c0_1) := (blk_cell BK231.out 1).trans rfl; have hcz3_2 : w2.cell? ⟨gb231, 2, none⟩ = some (.slice A0_2 l0_2.length c0_2) := (blk_cell BK231.out 2).trans rfl; have hcz3_3 : w2.cell? ⟨gb231, 3, none⟩ = some (.slice A0_3 l0_3.length c0_3) := (blk_cell BK231.out 3).trans rfl; have hfz3_0 := blk_frozen BK231.out 0; have hfz3_1 := blk_frozen BK231.out 1; have hfz3_2 := blk_frozen BK231.out 2; have hfz3_3 := blk_frozen BK231.out 3))
  go_loopg [4, 5, 13] k (fun kq v4 v5 v13 w' => ∃ (x4_1 : Int) (x5_1 : Int) (x13_1 : Int), v4 = .int .i64 x4_1 ∧ v5 = .int .i64 x5_1 ∧ v13 = .int .i64 x13_1 ∧ Aside0 (gram_Count.l0 kq x4_1 x5_1 l0_3 (l0_3.length : Int) x13_1 = some (r1, r2)) ∧ Aside0 (kq ≤ k) ∧ Aside0 (w'.heap[gb231]? = some (.cells #[.int .i64 a0_0, (.slice A0_1 l0_1.length c0_1), (.slice A0_2 l0_2.length c0_2), (.slice A0_3 l0_3.length c0_3)] 37 (0, 0))) ∧ Aside0 (Below w.heap.size w w'))
  case atStart => exact ⟨(1), (0), (0), (by first | rfl | (simp; done) | (simp [*]; done)), (by first | rfl | (simp; done) | (simp [*]; done)), (by first | rfl | (simp; done) | (simp [*]; done)), H', ⟨Nat.le_refl _⟩, ⟨by (with_reducible repeat (first | refine blk_drewN ?_ _ | refine blk_drew ?_ | refine blk_alloc ?_ _)); exact BK231.out⟩, ⟨by repeat (first | (with_reducible first | exact HB.out | apply below_alloc | apply pw_below_drewN | apply below_drew1 | refine below_set ?_ GE231.out) | exact HB.out)⟩⟩
  case round =>
    clear H'
    try clear p2
    try clear hcz3_0
    try clear hcz3_1
    try clear hcz3_2
    try clear hcz3_3
    try clear hfz3_0
    try clear hfz3_1
    try clear hfz3_2
    try clear hfz3_3
    obtain ⟨x4_1, x5_1, x13_1, rfl, rfl, rfl, HA, HK1, BK231, HB⟩ := hrel
    cases gk with
    | zero => exact absurd HA.out (by simp [gram_Count.l0])
    | succ k1 =>
      have H := HA.out
      clear HA
      simp only [gram_Count.l0] at H
      by_cases c4 : x13_1 < (l0_3.length : Int)
      · rw [if_pos c4] at H
        have c4b0 : decide (x13_1 < (l0_3.length : Int)) = true := decide_eq_true c4
        clear c4
        by_cases c5 : 0 ≤ x13_1
        · rw [if_pos c5] at H
          have c5b0 : decide (0 ≤ x13_1) = true := decide_eq_true c5
          clear c5
          by_cases c6 : x13_1 < (l0_3.length : Int)
          · rw [if_pos c6] at H
            have c6b0 : decide (x13_1 < (l0_3.length : Int)) = true := decide_eq_true c6
            clear c6
            replace H := Option.bind_eq_some_iff.mp H
            obtain ⟨⟨t234, t235⟩, A70, H⟩ := H
            replace H : (gram_Count.l0 k1 (wrap64 (x4_1 + t234)) (mx x5_1 t235) l0_3 (l0_3.length : Int) (wrap64 (x13_1 + 1))) = some (r1, r2) := H
            have A7 := Aside0.mk A70
            clear A70
            obtain ⟨ji8, hji8⟩ : ∃ j_ : Int, (mx x5_1 t235) = j_ := ⟨_, rfl⟩
            replace H : (gram_Count.l0 k1 (wrap64 (x4_1 + t234)) ji8 l0_3 (l0_3.length : Int) (wrap64 (x13_1 + 1))) = some (r1, r2) := by first | (rw [hji8] at H; exact H) | (simp only [hji8] at H ⊢; exact H)
            (try rw [hji8] at A7)
            have hji8_ : (if x5_1 < t235 then t235 else x5_1) = ji8 := hji8
            have H' := Aside0.mk H
            clear H
            have p232 : 0 ≤ (x13_1 : Int) := of_decide_eq_true (by first | (with_reducible assumption) | assumption)
            have q232 : x13_1 < (l0_3.length : Int) := of_decide_eq_true (by first | (with_reducible assumption) | assumption)
            obtain ⟨ad232, A232_1, c232_1, A232_2, c232_2, A232_3, c232_3, e232, hx232_0, hx232_1, hx232_2, hx232_3, hl232_1, hi232_1, hl232_2, hi232_2, hl232_3, hi232_3⟩ := at_T37 HR0_3.out x13_1 p232 q232
            cases e232
            replace hx232_0 := (HB.out.cell (World.block_lt_of_cell? w _ hx232_0)).trans hx232_0
            replace hx232_1 := (HB.out.cell (World.block_lt_of_cell? w _ hx232_1)).trans hx232_1
            replace hx232_2 := (HB.out.cell (World.block_lt_of_cell? w _ hx232_2)).trans hx232_2
            replace hx232_3 := (HB.out.cell (World.block_lt_of_cell? w _ hx232_3)).trans hx232_3
            have HR232_1 := Aside0.mk hi232_1
            have HC232_1 := Aside0.mk hl232_1
            clear hi232_1 hl232_1
            have HR232_2 := Aside0.mk hi232_2
            have HC232_2 := Aside0.mk hl232_2
            clear hi232_2 hl232_2
            have HR232_3 := Aside0.mk hi232_3
            have HC232_3 := Aside0.mk hl232_3
            clear hi232_3 hl232_3
            replace p232 := eq_true p232
            replace q232 := eq_true q232
            go_wp2_with (first | ((with_reducible refine gate_dst (N := 7) rfl ?_); refine box_event ?hg (N := 7) ?hd (cs := #[.int .i64 0, .slice none 0 0, .slice none 0 0, .slice none 0 0]) (t := 37) ?hr ?_; (case hd => rfl); (case hg => rfl); (case hr => first | (go_simp; done) | (go_simp; rfl)); intro gb233 hg w9 hbox hb; have n0_ := Aside0.mk (blk_below (g := gb231) (o := .cells #[.int .i64 a0_0, .slice A0_1 l0_1.length c0_1, .slice A0_2 l0_2.length c0_2, .slice (some ad232) l0_3.length c0_3] 37 (0, 0)) (by (with_reducible repeat (first | refine blk_drewN ?_ _ | refine blk_drew ?_ | refine blk_alloc ?_ _)); exact BK231.out) hb); have n1_ := Aside0.mk (below_step (by repeat (first | (with_reducible first | exact HB.out | apply below_alloc | apply pw_below_drewN | apply below_drew1 | refine below_set ?_ GE231.out) | exact HB.out)) hb); have n2_ := Aside0.mk (hbox); have n3_ := Aside0.mk ((by rw [hg]; exact (below_size (by repeat (first | (with_reducible first | exact HB.out | apply below_alloc | apply pw_below_drewN | apply below_drew1 | refine below_set ?_ GE231.out) | exact HB.out))) : w.heap.size ≤ gb233)); have n4_ := Aside0.mk ((by rw [hg]; exact (below_size (by repeat (first | (with_reducible first | exact HB.out | apply below_alloc | apply pw_below_drewN | apply below_drew1 | refine below_set ?_ GE231.out) | exact HB.out))) : w.heap.size ≤ gb233)); have n5_ := Aside0.mk ((by rw [hg]; exact Nat.ne_of_lt (blk_lt (g := gb231) (o := .cells #[.int .i64 a0_0, .slice A0_1 l0_1.length c0_1, .slice A0_2 l0_2.length c0_2, .slice (some ad232) l0_3.length c0_3] 37 (0, 0)) (by (with_reducible repeat (first | refine blk_drewN ?_ _ | refine blk_drew ?_ | refine blk_alloc ?_ _)); exact BK231.out)) : gb231 ≠ gb233)); have n6_ := Aside0.mk ((by rw [hg]; exact Nat.ne_of_gt (blk_lt (g := gb231) (o := .cells #[.int .i64 a0_0, .slice A0_1 l0_1.length c0_1, .slice A0_2 l0_2.length c0_2, .slice (some ad232) l0_3.length c0_3] 37 (0, 0)) (by (with_reducible repeat (first | refine blk_drewN ?_ _ | refine blk_drew ?_ | refine blk_alloc ?_ _)); exact BK231.out)) : gb233 ≠ gb231)); clear BK231; clear HB; have BK231 := n0_; have HB := n1_; have BK233 := n2_; have GW233 := n3_; have GE233 := n4_; have NB231_233 := n5_; have NB233_231 := n6_; clear n0_ n1_ n2_ n3_ n4_ n5_ n6_; clear hb hbox hg; have hnb10 := NB233_231.out; have hnc10 := NB231_233.out; have hcz11_0 : w9.cell? ⟨gb233, 0, none⟩ = some (.int .i64 0) := (blk_cell BK233.out 0).trans rfl; have hcz11_1 : w9.cell? ⟨gb233, 1, none⟩ = some (.slice none 0 0) := (blk_cell BK233.out 1).trans rfl; have hcz11_2 : w9.cell? ⟨gb233, 2, none⟩ = some (.slice none 0 0) := (blk_cell BK233.out 2).trans rfl; have hcz11_3 : w9.cell? ⟨gb233, 3, none⟩ = some (.slice none 0 0) := (blk_cell BK233.out 3).trans rfl; have hfz11_0 := blk_frozen BK233.out 0; have hfz11_1 := blk_frozen BK233.out 1; have hfz11_2 := blk_frozen BK233.out 2; have hfz11_3 := blk_frozen BK233.out 3) | ((with_reducible refine gate_callee (f := 9) rfl ?_); refine goesL_ (some 19) rfl rfl Tryd.func9 (by kernel_rfl) rfl #[.agg #[.int .i64 ((rd_T37 l0_3 x13_1).f0), .slice A232_1 ((rd_T37 l0_3 x13_1).f1).length c232_1, .slice A232_2 ((rd_T37 l0_3 x13_1).f2).length c232_2, .slice A232_3 ((rd_T37 l0_3 x13_1).f3).length c232_3]] rfl (by (try simp only [List.map_toArray, List.map_cons, List.map_nil]); first | done | rfl | (simp only [List.length_drop, List.length_take]; rfl)) ?_; (with_reducible refine (ih k1 (by have := HK1.out; omega) ((rd_T37 l0_3 x13_1).f0) _ _ ((rd_T37 l0_3 x13_1).f1) _ _ ((rd_T37 l0_3 x13_1).f2) _ _ ((rd_T37 l0_3 x13_1).f3) t234 t235 _ ?side1 ?side2 ?side3 ?side4 ?side5 ?side6 A7.out).mono ?_); (case side1 => exact Kd.C_below HR232_1.out (by repeat (first | (with_reducible first | exact HB.out | apply below_alloc | apply pw_below_drewN | apply below_drew1 | refine below_set ?_ GE231.out | refine below_set ?_ GE233.out) | exact HB.out))); (case side2 => exact HC232_1.out); (case side3 => exact Kd.C_below HR232_2.out (by repeat (first | (with_reducible first | exact HB.out | apply below_alloc | apply pw_below_drewN | apply below_drew1 | refine below_set ?_ GE231.out | refine below_set ?_ GE233.out) | exact HB.out))); (case side4 => exact HC232_2.out); (case side5 => exact Kd.C_below HR232_3.out (by repeat (first | (with_reducible first | exact HB.out | apply below_alloc | apply pw_below_drewN | apply below_drew1 | refine below_set ?_ GE231.out | refine below_set ?_ GE233.out) | exact HB.out))); (case side6 => exact HC232_3.out); rintro e w12 ⟨rfl, hb⟩; refine ⟨_, rfl, ?_⟩; have n0_ := Aside0.mk (blk_below (g := gb231) (o := .cells #[.int .i64 a0_0, .slice A0_1 l0_1.length c0_1, .slice A0_2 l0_2.length c0_2, .slice (some ad232) l0_3.length c0_3] 37 (0, 0)) (by (with_reducible repeat (first | refine blk_drewN ?_ _ | refine blk_drew ?_ | refine blk_alloc ?_ _)); refine blk_far ?_ NB231_233.out _; (with_reducible repeat (first | refine blk_drewN ?_ _ | refine blk_drew ?_ | refine blk_alloc ?_ _)); refine blk_far ?_ NB231_233.out _; (with_reducible repeat (first | refine blk_drewN ?_ _ | refine blk_drew ?_ | refine blk_alloc ?_ _)); refine blk_far ?_ NB231_233.out _; (with_reducible repeat (first | refine blk_drewN ?_ _ | refine blk_drew ?_ | refine blk_alloc ?_ _)); refine blk_far ?_ NB231_233.out _; (with_reducible repeat (first | refine blk_drewN ?_ _ | refine blk_drew ?_ | refine blk_alloc ?_ _)); exact BK231.out) hb); have n1_ := Aside0.mk (blk_below (g := gb233) (o := .cells #[.int .i64 ((rd_T37 l0_3 x13_1).f0), .slice A232_1 ((rd_T37 l0_3 x13_1).f1).length c232_1, .slice A232_2 ((rd_T37 l0_3 x13_1).f2).length c232_2, .slice A232_3 ((rd_T37 l0_3 x13_1).f3).length c232_3] 37 (0, 0)) (by (with_reducible repeat (first | refine blk_drewN ?_ _ | refine blk_drew ?_ | refine blk_alloc ?_ _)); refine blk_put (cs := #[.int .i64 ((rd_T37 l0_3 x13_1).f0), .slice A232_1 ((rd_T37 l0_3 x13_1).f1).length c232_1, .slice A232_2 ((rd_T37 l0_3 x13_1).f2).length c232_2, .slice none 0 0]) ?_ 3 _ rfl; (with_reducible repeat (first | refine blk_drewN ?_ _ | refine blk_drew ?_ | refine blk_alloc ?_ _)); refine blk_put (cs := #[.int .i64 ((rd_T37 l0_3 x13_1).f0), .slice A232_1 ((rd_T37 l0_3 x13_1).f1).length c232_1, .slice none 0 0, .slice none 0 0]) ?_ 2 _ rfl; (with_reducible repeat (first | refine blk_drewN ?_ _ | refine blk_drew ?_ | refine blk_alloc ?_ _)); refine blk_put (cs := #[.int .i64 ((rd_T37 l0_3 x13_1).f0), .slice none 0 0, .slice none 0 0, .slice none 0 0]) ?_ 1 _ rfl; (with_reducible repeat (first | refine blk_drewN ?_ _ | refine blk_drew ?_ | refine blk_alloc ?_ _)); refine blk_put (cs := #[.int .i64 0, .slice none 0 0, .slice none 0 0, .slice none 0 0]) ?_ 0 _ rfl; (with_reducible repeat (first | refine blk_drewN ?_ _ | refine blk_drew ?_ | refine blk_alloc ?_ _)); exact BK233.out) hb); have n2_ := Aside0.mk (below_step (by repeat (first | (with_reducible first | exact HB.out | apply below_alloc | apply pw_below_drewN | apply below_drew1 | refine below_set ?_ GE231.out | refine below_set ?_ GE233.out) | exact HB.out)) hb); clear BK231; clear BK233; clear HB; have BK231 := n0_; have BK233 := n1_; have HB := n2_; clear n0_ n1_ n2_; (try clear hb); (try clear hb2); (try clear hk); (try clear hi)))
            go_roundg k1
            case measure => have := HK1.out; omega
            case rel => exact ⟨(wrap64 (x4_1 + t234)), (ji8), (wrap64 (x13_1 + 1)), (by first | rfl | (simp; done) | (simp [*]; done)), (by first | rfl | (simp; done) | (simp only [← hji8] <;> (first | rfl | simp)) | (simp [*]; done)), (by first | rfl | (simp; done) | (simp [*]; done)), H', ⟨by have := HK1.out; omega⟩, ⟨by (with_reducible repeat (first | refine blk_drewN ?_ _ | refine blk_drew ?_ | refine blk_alloc ?_ _)); exact BK231.out⟩, ⟨by repeat (first | (with_reducible first | exact HB.out | apply below_alloc | apply pw_below_drewN | apply below_drew1 | refine below_set ?_ GE231.out | refine below_set ?_ GE233.out) | exact HB.out)⟩⟩
          · rw [if_neg c6] at H
            exact absurd H (by simp)
        · rw [if_neg c5] at H
          exact absurd H (by simp)
      · rw [if_neg c4] at H
        have c4b0 : decide (x13_1 < (l0_3.length : Int)) = false := decide_eq_false c4
        clear c4
        simp only [Option.some.injEq, Prod.mk.injEq] at H
        obtain ⟨rfl, rfl⟩ := H
        go_wp2
        go_ret2
        exact ⟨by first | rfl | (simp [errW_none, errW_some] <;> rfl) | (simp [*, errW_none, errW_some] <;> rfl), by repeat (first | (with_reducible first | exact HB.out | apply below_alloc | apply pw_below_drewN | apply below_drew1 | refine below_set ?_ GE231.out) | exact HB.out)⟩

-- NOT PRINTED: function 40 (api_Pat_40)

-- NOT PRINTED: function 22 (api_Pat_22)

/-! ### slices_Index_string_string: function 47 -/
def slices_Index_string_string.l0 : Nat → List ByteArray → ByteArray → Int → Int → Option (Int)
  | 0, _, _, _, _ => none
  | k + 1, x0, x1, x7, x8 => if x8 < x7 then (if 0 ≤ x8 then (if x8 < (x0.length : Int) then (if x1.toList = (rdOf ByteArray.empty x0 x8).toList then (some x8) else (slices_Index_string_string.l0 k x0 x1 x7 (wrap64 (x8 + 1)))) else (none)) else (none)) else (some (-1))
def slices_Index_string_string.f (k : Nat) (l0 : List ByteArray) (a1 : ByteArray) : Option (Int) := slices_Index_string_string.l0 k l0 a1 (l0.length : Int) 0
theorem slices_Index_string_string.mono_l : ∀ k, (∀ y0 y1 y2 y3, LeO (slices_Index_string_string.l0 k y0 y1 y2 y3) (slices_Index_string_string.l0 (k + 1) y0 y1 y2 y3))
  | 0 => fun _ _ _ _ r h => by simp [slices_Index_string_string.l0] at h
  | k + 1 => by
    have ih0 := slices_Index_string_string.mono_l k
    · intro y0 y1 y2 y3
      unfold slices_Index_string_string.l0
      repeat' first
      | (with_reducible exact ih0 _ _ _ _)
      | (with_reducible exact LeO.refl _)
      | (with_reducible exact LeO.none _)
      | (with_reducible refine LeO.ite ?_ ?_)
      | (with_reducible refine LeO.bind ?_ (fun _ => ?_))
      | exact ih0 _ _ _ _
      | exact LeO.none _
      | refine LeO.ite ?_ ?_
      | refine LeO.bind ?_ (fun _ => ?_)
theorem slices_Index_string_string.mono : ∀ a0 a1 k, LeO (slices_Index_string_string.f k a0 a1) (slices_Index_string_string.f (k + 1) a0 a1) := by
  intro a0 a1 k
  have ih0 := slices_Index_string_string.mono_l k
  unfold slices_Index_string_string.f
  repeat' first
      | (with_reducible exact ih0 _ _ _ _)
      | (with_reducible exact LeO.refl _)
      | (with_reducible exact LeO.none _)
      | (with_reducible refine LeO.ite ?_ ?_)
      | (with_reducible refine LeO.bind ?_ (fun _ => ?_))
      | exact ih0 _ _ _ _
      | exact LeO.none _
      | refine LeO.ite ?_ ?_
      | refine LeO.bind ?_ (fun _ => ?_)
set_option maxHeartbeats 8000000 in
set_option maxRecDepth 100000 in
theorem slices_Index_string_string.calls (k : Nat) (A0 : Option Addr) (c0 : Nat) (l0 : List ByteArray) (a1 : ByteArray) (r : Int) (w : World) (hr0 : Kd.C Kd.string w A0 l0.length l0) (hc0 : l0.length ≤ c0) (h : slices_Index_string_string.f k l0 a1 = some r) :
    Calls Tryd.prog 47 #[.slice A0 l0.length c0, .string a1] w fun e w' => e = .returned (.int .i64 r) ∧ Drawn0 w w' := by
  have HR0 := Aside0.mk hr0
  have HC0 := Aside0.mk hc0
  clear hr0 hc0
  have H : (slices_Index_string_string.l0 k l0 a1 (l0.length : Int) 0) = some r := h
  clear h
  have H' := Aside0.mk H
  clear H
  go_enter Tryd.func47, Tryd.ntmps47
  go_wp2
  go_loopg [8] k (fun kq v8 w' => ∃ (x8_1 : Int), v8 = .int .i64 x8_1 ∧ Aside0 (slices_Index_string_string.l0 kq l0 a1 (l0.length : Int) x8_1 = some r) ∧ Aside0 (kq ≤ k) ∧ Drawn0 w w')
  case atStart => exact ⟨(0), (by first | rfl | (simp; done) | (simp [*]; done)), H', ⟨Nat.le_refl _⟩, by repeat (first | exact Drawn0.refl _ | apply Drawn0.step)⟩
  case round =>
    clear H'
    try clear p2
    obtain ⟨x8_1, rfl, HA, HK1, ⟨m1, rfl⟩⟩ := hrel
    cases gk with
    | zero => exact absurd HA.out (by simp [slices_Index_string_string.l0])
    | succ k1 =>
      have H := HA.out
      clear HA
      simp only [slices_Index_string_string.l0] at H
      by_cases c3 : x8_1 < (l0.length : Int)
      · rw [if_pos c3] at H
        have c3b0 : decide (x8_1 < (l0.length : Int)) = true := decide_eq_true c3
        clear c3
        by_cases c4 : 0 ≤ x8_1
        · rw [if_pos c4] at H
          have c4b0 : decide (0 ≤ x8_1) = true := decide_eq_true c4
          clear c4
          by_cases c5 : x8_1 < (l0.length : Int)
          · rw [if_pos c5] at H
            have c5b0 : decide (x8_1 < (l0.length : Int)) = true := decide_eq_true c5
            clear c5
            by_cases c6 : a1.toList = (rdOf ByteArray.empty l0 x8_1).toList
            · rw [if_pos c6] at H
              have c6b0 : (a1.toList == (rdOf ByteArray.empty l0 x8_1).toList) = true := beq_iff_eq.mpr c6
              have c6b1 : (a1.toList != (rdOf ByteArray.empty l0 x8_1).toList) = false := bne_eq_false_iff_eq.mpr c6
              clear c6
              obtain rfl := Option.some.inj H
              have p237 : 0 ≤ (x8_1 : Int) := of_decide_eq_true (by first | (with_reducible assumption) | assumption)
              have q237 : x8_1 < (l0.length : Int) := of_decide_eq_true (by first | (with_reducible assumption) | assumption)
              obtain ⟨ad237, e237, hx237_0⟩ := Kd.at_string HR0.out x8_1 p237 q237
              cases e237
              replace p237 := eq_true p237
              replace q237 := eq_true q237
              go_wp2
              go_ret
              exact ⟨by first | rfl | (simp; done) | (simp [*]; done), by repeat (first | exact Drawn0.refl _ | apply Drawn0.step)⟩
            · rw [if_neg c6] at H
              have c6b0 : (a1.toList == (rdOf ByteArray.empty l0 x8_1).toList) = false := beq_eq_false_iff_ne.mpr c6
              have c6b1 : (a1.toList != (rdOf ByteArray.empty l0 x8_1).toList) = true := bne_iff_ne.mpr c6
              have H' := Aside0.mk H
              clear H
              have p237 : 0 ≤ (x8_1 : Int) := of_decide_eq_true (by first | (with_reducible assumption) | assumption)
              have q237 : x8_1 < (l0.length : Int) := of_decide_eq_true (by first | (with_reducible assumption) | assumption)
              obtain ⟨ad237, e237, hx237_0⟩ := Kd.at_string HR0.out x8_1 p237 q237
              cases e237
              replace p237 := eq_true p237
              replace q237 := eq_true q237
              go_wp2
              go_roundg k1
              case measure => have := HK1.out; omega
              case rel => exact ⟨(wrap64 (x8_1 + 1)), (by first | rfl | (simp; done) | (simp [*]; done)), H', ⟨by have := HK1.out; omega⟩, by repeat (first | exact Drawn0.refl _ | apply Drawn0.step)⟩
          · rw [if_neg c5] at H
            exact absurd H (by simp)
        · rw [if_neg c4] at H
          exact absurd H (by simp)
      · rw [if_neg c3] at H
        have c3b0 : decide (x8_1 < (l0.length : Int)) = false := decide_eq_false c3
        clear c3
        obtain rfl := Option.some.inj H
        go_wp2
        go_ret
        exact ⟨by first | rfl | (simp; done) | (simp [*]; done), by repeat (first | exact Drawn0.refl _ | apply Drawn0.step)⟩

/-! ### slices_Contains_string_string: function 32 -/
def slices_Contains_string_string.f (k : Nat) (l0 : List ByteArray) (a1 : ByteArray) : Option (Bool) := (slices_Index_string_string.f k l0 a1).bind fun t238 => (some (decide (t238 ≥ 0)))
theorem slices_Contains_string_string.mono : ∀ a0 a1 k, LeO (slices_Contains_string_string.f k a0 a1) (slices_Contains_string_string.f (k + 1) a0 a1) := by
  intro a0 a1 k
  unfold slices_Contains_string_string.f
  repeat' first
      | (with_reducible exact slices_Index_string_string.mono _ _ _)
      | (with_reducible exact LeO.refl _)
      | (with_reducible exact LeO.none _)
      | (with_reducible refine LeO.ite ?_ ?_)
      | (with_reducible refine LeO.bind ?_ (fun _ => ?_))
      | exact slices_Index_string_string.mono _ _ _
      | exact LeO.none _
      | refine LeO.ite ?_ ?_
      | refine LeO.bind ?_ (fun _ => ?_)
set_option maxHeartbeats 8000000 in
set_option maxRecDepth 100000 in
theorem slices_Contains_string_string.calls (k : Nat) (A0 : Option Addr) (c0 : Nat) (l0 : List ByteArray) (a1 : ByteArray) (r : Bool) (w : World) (hr0 : Kd.C Kd.string w A0 l0.length l0) (hc0 : l0.length ≤ c0) (h : slices_Contains_string_string.f k l0 a1 = some r) :
    Calls Tryd.prog 32 #[.slice A0 l0.length c0, .string a1] w fun e w' => e = .returned (.bool r) ∧ Drawn0 w w' := by
  have HR0 := Aside0.mk hr0
  have HC0 := Aside0.mk hc0
  clear hr0 hc0
  have H : ((slices_Index_string_string.f k l0 a1).bind fun t238 => (some (decide (t238 ≥ 0)))) = some r := h
  clear h
  replace H := Option.bind_eq_some_iff.mp H
  obtain ⟨t238, A30, H⟩ := H
  replace H : (some (decide (t238 ≥ 0))) = some r := H
  have A3 := Aside0.mk A30
  clear A30
  obtain rfl := Option.some.inj H
  go_enter Tryd.func32, Tryd.ntmps32
  go_wp2_with (first | ((with_reducible refine gate_callee (f := 47) rfl ?_); refine goesL_ (some 7) rfl rfl Tryd.func47 (by kernel_rfl) rfl #[.slice A0 l0.length c0, .string a1] rfl (by (try simp only [List.map_toArray, List.map_cons, List.map_nil]); first | done | rfl | (simp only [List.length_drop, List.length_take]; rfl)) ?_; (with_reducible refine (slices_Index_string_string.calls k _ _ l0 a1 t238 _ ?side1 ?side2 A3.out).mono ?_); (case side1 => repeat (first | exact HR0.out | (with_reducible refine Kd.C_alloc ?_ _) | (with_reducible refine Kd.C_drewN ?_ _) | (with_reducible refine Kd.C_drew ?_))); (case side2 => exact HC0.out); rintro e w' ⟨rfl, ⟨nd, rfl⟩⟩; refine ⟨_, rfl, ?_⟩))
  go_ret
  exact ⟨by first | rfl | (simp; done) | (simp [*]; done), by repeat (first | exact Drawn0.refl _ | apply Drawn0.step)⟩

/-! ### slices_Equal_string_string: function 24 -/
def slices_Equal_string_string.l0 : Nat → List ByteArray → List ByteArray → Int → Int → Option (Bool)
  | 0, _, _, _, _ => none
  | k + 1, x0, x1, x12, x13 => if x13 < x12 then (if 0 ≤ x13 then (if x13 < (x0.length : Int) then (if x13 < (x1.length : Int) then (if (rdOf ByteArray.empty x0 x13).toList = (rdOf ByteArray.empty x1 x13).toList then (slices_Equal_string_string.l0 k x0 x1 x12 (wrap64 (x13 + 1))) else (some false)) else (none)) else (none)) else (none)) else (some true)
def slices_Equal_string_string.f (k : Nat) (l0 : List ByteArray) (l1 : List ByteArray) : Option (Bool) := if (l0.length : Int) = (l1.length : Int) then (slices_Equal_string_string.l0 k l0 l1 (l0.length : Int) 0) else (some false)
theorem slices_Equal_string_string.mono_l : ∀ k, (∀ y0 y1 y2 y3, LeO (slices_Equal_string_string.l0 k y0 y1 y2 y3) (slices_Equal_string_string.l0 (k + 1) y0 y1 y2 y3))
  | 0 => fun _ _ _ _ r h => by simp [slices_Equal_string_string.l0] at h
  | k + 1 => by
    have ih0 := slices_Equal_string_string.mono_l k
    · intro y0 y1 y2 y3
      unfold slices_Equal_string_string.l0
      repeat' first
      | (with_reducible exact ih0 _ _ _ _)
      | (with_reducible exact LeO.refl _)
      | (with_reducible exact LeO.none _)
      | (with_reducible refine LeO.ite ?_ ?_)
      | (with_reducible refine LeO.bind ?_ (fun _ => ?_))
      | exact ih0 _ _ _ _
      | exact LeO.none _
      | refine LeO.ite ?_ ?_
      | refine LeO.bind ?_ (fun _ => ?_)
theorem slices_Equal_string_string.mono : ∀ a0 a1 k, LeO (slices_Equal_string_string.f k a0 a1) (slices_Equal_string_string.f (k + 1) a0 a1) := by
  intro a0 a1 k
  have ih0 := slices_Equal_string_string.mono_l k
  unfold slices_Equal_string_string.f
  repeat' first
      | (with_reducible exact ih0 _ _ _ _)
      | (with_reducible exact LeO.refl _)
      | (with_reducible exact LeO.none _)
      | (with_reducible refine LeO.ite ?_ ?_)
      | (with_reducible refine LeO.bind ?_ (fun _ => ?_))
      | exact ih0 _ _ _ _
      | exact LeO.none _
      | refine LeO.ite ?_ ?_
      | refine LeO.bind ?_ (fun _ => ?_)
set_option maxHeartbeats 8000000 in
set_option maxRecDepth 100000 in
theorem slices_Equal_string_string.calls (k : Nat) (A0 : Option Addr) (c0 : Nat) (l0 : List ByteArray) (A1 : Option Addr) (c1 : Nat) (l1 : List ByteArray) (r : Bool) (w : World) (hr0 : Kd.C Kd.string w A0 l0.length l0) (hc0 : l0.length ≤ c0) (hr1 : Kd.C Kd.string w A1 l1.length l1) (hc1 : l1.length ≤ c1) (h : slices_Equal_string_string.f k l0 l1 = some r) :
    Calls Tryd.prog 24 #[.slice A0 l0.length c0, .slice A1 l1.length c1] w fun e w' => e = .returned (.bool r) ∧ Drawn0 w w' := by
  have HR0 := Aside0.mk hr0
  have HC0 := Aside0.mk hc0
  clear hr0 hc0
  have HR1 := Aside0.mk hr1
  have HC1 := Aside0.mk hc1
  clear hr1 hc1
  have H : (if (l0.length : Int) = (l1.length : Int) then (slices_Equal_string_string.l0 k l0 l1 (l0.length : Int) 0) else (some false)) = some r := h
  clear h
  by_cases c3 : (l0.length : Int) = (l1.length : Int)
  · rw [if_pos c3] at H
    have c3b0 : ((l0.length : Int) == (l1.length : Int)) = true := beq_iff_eq.mpr c3
    have c3b1 : ((l0.length : Int) != (l1.length : Int)) = false := bne_eq_false_iff_eq.mpr c3
    have c3b2 : (l0.length == l1.length) = true := by first | simpa using c3 | (simp at c3 ⊢; omega)
    clear c3
    have H' := Aside0.mk H
    clear H
    go_enter Tryd.func24, Tryd.ntmps24
    go_wp2
    repeat (go_quiet (fail); try go_wp2)
    go_loopg [13] k (fun kq v13 w' => ∃ (x13_1 : Int), v13 = .int .i64 x13_1 ∧ Aside0 (slices_Equal_string_string.l0 kq l0 l1 (l0.length : Int) x13_1 = some r) ∧ Aside0 (kq ≤ k) ∧ Drawn0 w w')
    case atStart => exact ⟨(0), (by first | rfl | (simp; done) | (simp [*]; done)), H', ⟨Nat.le_refl _⟩, by repeat (first | exact Drawn0.refl _ | apply Drawn0.step)⟩
    case round =>
      clear H'
      try clear c1
      try clear c2
      try clear p2
      try clear c3
      try clear c3b0
      try clear c3b1
      try clear c3b2
      obtain ⟨x13_1, rfl, HA, HK1, ⟨m1, rfl⟩⟩ := hrel
      cases gk with
      | zero => exact absurd HA.out (by simp [slices_Equal_string_string.l0])
      | succ k1 =>
        have H := HA.out
        clear HA
        simp only [slices_Equal_string_string.l0] at H
        by_cases c4 : x13_1 < (l0.length : Int)
        · rw [if_pos c4] at H
          have c4b0 : decide (x13_1 < (l0.length : Int)) = true := decide_eq_true c4
          clear c4
          by_cases c5 : 0 ≤ x13_1
          · rw [if_pos c5] at H
            have c5b0 : decide (0 ≤ x13_1) = true := decide_eq_true c5
            clear c5
            by_cases c6 : x13_1 < (l0.length : Int)
            · rw [if_pos c6] at H
              have c6b0 : decide (x13_1 < (l0.length : Int)) = true := decide_eq_true c6
              clear c6
              by_cases c7 : x13_1 < (l1.length : Int)
              · rw [if_pos c7] at H
                have c7b0 : decide (x13_1 < (l1.length : Int)) = true := decide_eq_true c7
                clear c7
                by_cases c8 : (rdOf ByteArray.empty l0 x13_1).toList = (rdOf ByteArray.empty l1 x13_1).toList
                · rw [if_pos c8] at H
                  have c8b0 : ((rdOf ByteArray.empty l0 x13_1).toList == (rdOf ByteArray.empty l1 x13_1).toList) = true := beq_iff_eq.mpr c8
                  have c8b1 : ((rdOf ByteArray.empty l0 x13_1).toList != (rdOf ByteArray.empty l1 x13_1).toList) = false := bne_eq_false_iff_eq.mpr c8
                  clear c8
                  have H' := Aside0.mk H
                  clear H
                  have p257 : 0 ≤ (x13_1 : Int) := of_decide_eq_true (by first | (with_reducible assumption) | assumption)
                  have q257 : x13_1 < (l0.length : Int) := of_decide_eq_true (by first | (with_reducible assumption) | assumption)
                  obtain ⟨ad257, e257, hx257_0⟩ := Kd.at_string HR0.out x13_1 p257 q257
                  cases e257
                  replace p257 := eq_true p257
                  replace q257 := eq_true q257
                  have p258 : 0 ≤ (x13_1 : Int) := of_decide_eq_true (by first | (with_reducible assumption) | assumption)
                  have q258 : x13_1 < (l1.length : Int) := of_decide_eq_true (by first | (with_reducible assumption) | assumption)
                  obtain ⟨ad258, e258, hx258_0⟩ := Kd.at_string HR1.out x13_1 p258 q258
                  cases e258
                  replace p258 := eq_true p258
                  replace q258 := eq_true q258
                  go_wp2
                  repeat (go_quiet (fail); try go_wp2)
                  go_roundg k1
                  case measure => have := HK1.out; omega
                  case rel => exact ⟨(wrap64 (x13_1 + 1)), (by first | rfl | (simp; done) | (simp [*]; done)), H', ⟨by have := HK1.out; omega⟩, by repeat (first | exact Drawn0.refl _ | apply Drawn0.step)⟩
                · rw [if_neg c8] at H
                  have c8b0 : ((rdOf ByteArray.empty l0 x13_1).toList == (rdOf ByteArray.empty l1 x13_1).toList) = false := beq_eq_false_iff_ne.mpr c8
                  have c8b1 : ((rdOf ByteArray.empty l0 x13_1).toList != (rdOf ByteArray.empty l1 x13_1).toList) = true := bne_iff_ne.mpr c8
                  obtain rfl := Option.some.inj H
                  have p257 : 0 ≤ (x13_1 : Int) := of_decide_eq_true (by first | (with_reducible assumption) | assumption)
                  have q257 : x13_1 < (l0.length : Int) := of_decide_eq_true (by first | (with_reducible assumption) | assumption)
                  obtain ⟨ad257, e257, hx257_0⟩ := Kd.at_string HR0.out x13_1 p257 q257
                  cases e257
                  replace p257 := eq_true p257
                  replace q257 := eq_true q257
                  have p258 : 0 ≤ (x13_1 : Int) := of_decide_eq_true (by first | (with_reducible assumption) | assumption)
                  have q258 : x13_1 < (l1.length : Int) := of_decide_eq_true (by first | (with_reducible assumption) | assumption)
                  obtain ⟨ad258, e258, hx258_0⟩ := Kd.at_string HR1.out x13_1 p258 q258
                  cases e258
                  replace p258 := eq_true p258
                  replace q258 := eq_true q258
                  go_wp2
                  repeat (go_quiet (fail); try go_wp2)
                  go_ret
                  exact ⟨by first | rfl | (simp; done) | (simp [*]; done), by repeat (first | exact Drawn0.refl _ | apply Drawn0.step)⟩
              · rw [if_neg c7] at H
                exact absurd H (by simp)
            · rw [if_neg c6] at H
              exact absurd H (by simp)
          · rw [if_neg c5] at H
            exact absurd H (by simp)
        · rw [if_neg c4] at H
          have c4b0 : decide (x13_1 < (l0.length : Int)) = false := decide_eq_false c4
          clear c4
          obtain rfl := Option.some.inj H
          go_wp2
          repeat (go_quiet (fail); try go_wp2)
          go_ret
          exact ⟨by first | rfl | (simp; done) | (simp [*]; done), by repeat (first | exact Drawn0.refl _ | apply Drawn0.step)⟩
  · rw [if_neg c3] at H
    have c3b0 : ((l0.length : Int) == (l1.length : Int)) = false := beq_eq_false_iff_ne.mpr c3
    have c3b1 : ((l0.length : Int) != (l1.length : Int)) = true := bne_iff_ne.mpr c3
    have c3b2 : (l0.length == l1.length) = false := by first | simpa using c3 | (simp at c3 ⊢; omega)
    obtain rfl := Option.some.inj H
    go_enter Tryd.func24, Tryd.ntmps24
    go_wp2
    repeat (go_quiet (fail); try go_wp2)
    go_ret
    exact ⟨by first | rfl | (simp; done) | (simp [*]; done), by repeat (first | exact Drawn0.refl _ | apply Drawn0.step)⟩

-- NOT PRINTED: function 25 (api_Pat_25)
end Go.Proofs.YthdfmbmbjpmlaaaDoor.Rn
/- gram: the court's class and names. -/
set_option linter.unusedVariables false
set_option linter.unusedSimpArgs false
namespace Go.Proofs.YthdfmbmbjpmlaaaDoor.Rn
open Go Go.RowKit Go.Proofs.YthdfmbmbjpmlaaaDoorW.PrintWords Go.Proofs.YthdfmbmbjpmlaaaDoorW.PrintLast Go.Proofs.YthdfmbmbjpmlaaaDoorW.PrintMore
section
variable {bc : Nat} {AT : Option Addr} {T : List Tok} {ct : Nat} {AR : Option Addr} {R : List Rul} {cr : Nat} {wh : Int} {W : World}
theorem must_yes (code : Int) (hc : CourtAt bc AT T ct AR R cr wh W) :
    Calls Tryd.prog 29 #[.pointer (some ⟨bc, 0, none⟩), .bool true, .int .i64 code] W fun e w' => e = .returned (.tuple #[]) ∧ Below W.heap.size W w' :=
  (must_any bc AT T ct AR R cr wh true code W hc).mono fun e w' h => ⟨h.2, h.1⟩
theorem must_no (code : Int) (hc : CourtAt bc AT T ct AR R cr wh W) :
    Calls Tryd.prog 29 #[.pointer (some ⟨bc, 0, none⟩), .bool false, .int .i64 code] W fun e w' => e = .panicked [{ v := faultV code wh, recovered := false }] ∧ Below W.heap.size W w' :=
  (must_any bc AT T ct AR R cr wh false code W hc).mono fun e w' h => ⟨h.2, h.1⟩
theorem CourtAt.later {W' : World} (h : CourtAt bc AT T ct AR R cr wh W) (hb : Below W.heap.size W W') : CourtAt bc AT T ct AR R cr wh W' := blk_below h hb
theorem CourtPost.ok {W' : World} (h : Below W.heap.size W W') : CourtPost wh none W (.returned (.tuple #[])) W' := ⟨h, rfl⟩
theorem CourtPost.bad {W' : World} {c : Int} (h : Below W.heap.size W W') : CourtPost wh (some c) W (.panicked [{ v := faultV c wh, recovered := false }]) W' := ⟨h, rfl⟩
end
def classS (n : Int) : Option Int := if 0 ≤ n ∧ n ≤ 31 then none else some 6
set_option maxHeartbeats 1000000 in
theorem class_any (bc : Nat) (AT : Option Addr) (T : List Tok) (ct : Nat) (AR : Option Addr) (R : List Rul) (cr : Nat) (wh : Int) (n : Int) (W : World) (hc : CourtAt bc AT T ct AR R cr wh W) :
    Calls Tryd.prog 42 #[.pointer (some ⟨bc, 0, none⟩), .int .i64 n] W (CourtPost wh (classS n) W) := by
  have HC := Aside0.mk hc
  clear hc
  by_cases c1 : 0 ≤ n
  · by_cases c2 : n ≤ 31
    · have HR : Aside0 (classS n = none) := ⟨if_pos ⟨c1, c2⟩⟩
      rw [HR.out]
      go_enter Tryd.func42, Tryd.ntmps42
      go_wp2_with fail
      refine (must_yes 6 HC.out).mono ?_
      rintro e w2 ⟨rfl, hb⟩
      have HB := Aside0.mk hb
      clear hb
      go_wp2
      first | go_end0 | refine bodyPost_ret (results_none rfl _ _ _) rfl ?_
      exact CourtPost.ok HB.out
    · have HR : Aside0 (classS n = some 6) := ⟨if_neg (fun h => c2 h.2)⟩
      have d2 : decide (n ≤ 31) = false := decide_eq_false c2
      rw [HR.out]
      go_enter Tryd.func42, Tryd.ntmps42
      go_wp2_with fail
      refine (must_no 6 HC.out).mono ?_
      rintro e w2 ⟨rfl, hb⟩
      have HB := Aside0.mk hb
      clear hb
      go_wp2
      exact ⟨rfl, CourtPost.bad HB.out⟩
  · have HR : Aside0 (classS n = some 6) := ⟨if_neg (fun h => c1 h.1)⟩
    have d1 : decide (0 ≤ n) = false := decide_eq_false c1
    rw [HR.out]
    go_enter Tryd.func42, Tryd.ntmps42
    go_wp2_with fail
    refine (must_no 6 HC.out).mono ?_
    rintro e w2 ⟨rfl, hb⟩
    have HB := Aside0.mk hb
    clear hb
    go_wp2
    exact ⟨rfl, CourtPost.bad HB.out⟩
theorem rdOf_at (l : List ByteArray) (i : Nat) (hi : i < l.length) : rdOf ByteArray.empty l (i : Int) = l[i] := by
  unfold rdOf
  rw [Int.toNat_natCast, List.getD_eq_getElem?_getD, List.getElem?_eq_getElem hi]
  rfl
/-- is a text among some -/
def hasT (l : List ByteArray) (s : ByteArray) : Bool := l.any (fun t => decide (s = t))
theorem index_l (l : List ByteArray) (s : ByteArray) (hl : l.length ≤ 9223372036854775807) (d : Nat) : ∀ i : Nat, i ≤ l.length → l.length - i = d → Ev (fun k => (slices_Index_string_string.l0 k l s (l.length : Int) (i : Int)).map (fun v => decide (v ≥ 0))) (hasT (l.drop i) s) := by
  induction d with
  | zero =>
    intro i h1 h2
    refine Ev.step (f := fun _ => some false) (fun k => ?_) ?_
    · simp only [slices_Index_string_string.l0]
      rw [if_neg (by omega)]
      rfl
    · rw [List.drop_of_length_le (by omega)]
      exact Ev.now _
  | succ d ih =>
    intro i h1 h2
    have hi : i < l.length := by omega
    have hrd := rdOf_at l i hi
    have hd := List.drop_eq_getElem_cons hi
    by_cases c : s = l[i]
    · refine Ev.step (f := fun _ => some true) (fun k => ?_) ?_
      · simp only [slices_Index_string_string.l0]
        rw [if_pos (by omega), if_pos (by omega), if_pos (by omega), hrd, if_pos (congrArg ByteArray.toList c)]
        rw [Option.map_some, decide_eq_true (show (i : Int) ≥ 0 by omega)]
      · have e3 : hasT (l.drop i) s = true := by
          rw [hd]
          simp [hasT, ← c]
        rw [e3]
        exact Ev.now _
    · have hn := ih (i + 1) (by omega) (by omega)
      have e2 : wrap64 ((i : Int) + 1) = ((i + 1 : Nat) : Int) := by
        clear hn hrd hd
        unfold wrap64
        omega
      refine Ev.step (f := fun k => (slices_Index_string_string.l0 k l s (l.length : Int) ((i + 1 : Nat) : Int)).map (fun v => decide (v ≥ 0))) (fun k => ?_) ?_
      · simp only [slices_Index_string_string.l0]
        rw [if_pos (by omega), if_pos (by omega), if_pos (by omega), hrd, if_neg (fun e => c (text_ext e)), e2]
      · have e3 : hasT (l.drop i) s = hasT (l.drop (i + 1)) s := by
          rw [hd]
          show (decide (s = l[i]) || hasT (l.drop (i + 1)) s) = _
          rw [decide_eq_false c, Bool.false_or]
        rw [e3]
        exact hn
theorem contains_s (l : List ByteArray) (s : ByteArray) (hl : l.length ≤ 9223372036854775807) : ∃ k, slices_Contains_string_string.f k l s = some (hasT l s) := by
  obtain ⟨k, hk⟩ := (index_l l s hl l.length 0 (by omega) (by omega)).rounds
  refine ⟨k, ?_⟩
  unfold slices_Contains_string_string.f slices_Index_string_string.f
  rw [List.drop_zero] at hk
  obtain ⟨v, hv, he⟩ := Option.map_eq_some_iff.1 hk
  rw [show ((0 : Nat) : Int) = 0 from rfl] at hv
  rw [hv, Option.bind_some, he]
theorem C_take {α : Type} {k : Kd α} {w : World} {A : Option Addr} {xs : List α} (h : k.C w A xs.length xs) (n : Nat) (hn : n ≤ xs.length) : k.C w A n (xs.take n) :=
  ⟨by rw [List.length_take]; omega, by have := h.2.1; omega, fun h0 => by
    obtain ⟨ad, e, hc⟩ := h.2.2 (by omega)
    refine ⟨ad, e, fun j p hj => hc j p ?_⟩
    obtain ⟨hlt, hv⟩ := List.getElem?_eq_some_iff.1 hj
    rw [List.length_take] at hlt
    rw [List.getElem_take] at hv
    exact List.getElem?_eq_some_iff.2 ⟨by omega, hv⟩⟩
theorem contains_any (A : Option Addr) (l : List ByteArray) (n c : Nat) (s : ByteArray) (w : World) (hC : Kd.string.C w A n l) (hc : n ≤ c) :
    Calls Tryd.prog 32 #[.slice A n c, .string s] w fun e w' => e = .returned (.bool (hasT l s)) ∧ Below w.heap.size w w' := by
  obtain rfl := hC.1
  obtain ⟨k, hk⟩ := contains_s l s hC.2.1
  exact (slices_Contains_string_string.calls k A c l s _ w hC hc hk).mono fun e w' h => ⟨h.1, h.2.below⟩
def kindAt (T : List Tok) (i : Int) : Int := (rd_T50 T i).f1
/-- names of tokens of a kind, each once: the code of what is wrong -/
def namesS (T : List Tok) (kind : Int) : List ByteArray → List ByteArray → Option Int
  | _, [] => none
  | p, s :: r => if 0 ≤ findS T s 0 ∧ hasT p s = false then (if kindAt T (findS T s 0) = kind then namesS T kind (p ++ [s]) r else some 5) else some 4
theorem findS_lt (T : List Tok) (s : ByteArray) : ∀ (i : Nat), findS T s i = -1 ∨ ((i : Int) ≤ findS T s i ∧ findS T s i < i + T.length) := by
  induction T with
  | nil => exact fun i => .inl rfl
  | cons t T ih =>
    intro i
    show (if t.f0 = s then (i : Int) else findS T s (i + 1)) = -1 ∨ _ ≤ (if t.f0 = s then (i : Int) else findS T s (i + 1)) ∧ (if t.f0 = s then (i : Int) else findS T s (i + 1)) < _
    by_cases c : t.f0 = s
    · rw [if_pos c, List.length_cons]
      exact .inr ⟨by omega, by omega⟩
    · rw [if_neg c, List.length_cons]
      rcases ih (i + 1) with h | h
      · exact .inl h
      · exact .inr ⟨by omega, by omega⟩
set_option maxHeartbeats 2000000 in
set_option maxRecDepth 100000 in
theorem names_any (bc : Nat) (AT : Option Addr) (T : List Tok) (ct : Nat) (AR : Option Addr) (R : List Rul) (cr : Nat) (wh : Int) (Al : Option Addr) (l : List ByteArray) (cl : Nat) (kind : Int) (W : World) (hc : CourtAt bc AT T ct AR R cr wh W) (hT : kTok.C W AT T.length T) (hl : Kd.string.C W Al l.length l) (hcl : l.length ≤ cl) :
    Calls Tryd.prog 45 #[.pointer (some ⟨bc, 0, none⟩), .slice Al l.length cl, .int .i64 kind] W (CourtPost wh (namesS T kind [] l) W) := by
  have hlen : l.length ≤ 9223372036854775807 := hl.2.1
  have HC := Aside0.mk hc
  have HT := Aside0.mk hT
  have HL := Aside0.mk hl
  obtain ⟨res, hres⟩ : ∃ res, namesS T kind [] l = res := ⟨_, rfl⟩
  have HR := Aside0.mk hres
  rw [hres]
  clear hc hT hl hres
  go_enter Tryd.func45, Tryd.ntmps45
  go_wp2
  go_loopw [11] (fun i w' => ∃ k : Nat, i = .int .i64 k ∧ k ≤ l.length ∧ Aside0 (namesS T kind (l.take k) (l.drop k) = res) ∧ Aside0 (Below W.heap.size W w')) (fun i _ => l.length - (intOf i).toNat)
  case atStart => exact ⟨0, rfl, Nat.zero_le _, HR, ⟨Below.refl _ _⟩⟩
  case round =>
    obtain ⟨k, rfl, hkl, HI, HB⟩ := hrel
    by_cases hlt : k < l.length
    · obtain ⟨g, o, rfl, _, hcell⟩ := row_cells HL.out (by omega) (by decide)
      obtain ⟨s, hs⟩ : ∃ s, l[k]? = some s := ⟨_, List.getElem?_eq_getElem hlt⟩
      obtain ⟨cs, hcs, hK, hcc⟩ := hcell k s hs
      obtain rfl : cs = [.string s] := hK
      have y0 := cell_after HB.out (hcc 0 (.string s) rfl)
      rw [Nat.add_zero, show (Kd.string).sz = 1 from rfl, Nat.mul_one] at y0
      have b0 := cell_after HB.out (show W.cell? ⟨bc, 0, none⟩ = some (.slice AT T.length ct) from (blk_cell HC.out 0).trans rfl)
      have b1 := cell_after HB.out (show W.cell? ⟨bc, 1, none⟩ = some (.slice AR R.length cr) from (blk_cell HC.out 1).trans rfl)
      have HS := Aside0.mk hs
      have hdk : l.drop k = s :: l.drop (k + 1) := by
        rw [List.drop_eq_getElem_cons hlt]
        rw [List.getElem?_eq_getElem hlt] at hs
        rw [Option.some.inj hs]
      have htk : l.take (k + 1) = l.take k ++ [s] := by rw [List.take_add_one, hs]; rfl
      have hI2 := HI.out
      rw [hdk, namesS] at hI2
      have HI2 := Aside0.mk hI2
      have HTK := Aside0.mk htk
      have hf := findS_lt T s 0
      clear hcell hcc hs hdk htk hI2 HI hcs
      go_wp2_with fail
      refine (find_any T AT AR ct cr R.length s _ (Kd.C_below HT.out HB.out)).mono ?_
      rintro e w2 ⟨rfl, hb⟩
      have HB2 := Aside0.mk (join_below HB.out hb)
      have b2 := cell_after hb b0
      have HC2 := Aside0.mk (CourtAt.later HC.out HB2.out)
      clear b0 b1 y0 hb
      generalize findS T s 0 = f at *
      by_cases c1 : 0 ≤ f
      · have hfl : f < T.length := by omega
        obtain ⟨fn, rfl⟩ : ∃ n : Nat, f = n := ⟨f.toNat, by omega⟩
        have hTl : 0 < T.length := by omega
        have hfn : fn < T.length := by omega
        obtain ⟨g2, o2, rfl, _, hcellT⟩ := row_cells HT.out hTl (by decide)
        obtain ⟨t, ht⟩ : ∃ t, T[fn]? = some t := ⟨_, List.getElem?_eq_getElem hfn⟩
        obtain ⟨ct2, _, hK2, hcc2⟩ := hcellT fn t ht
        obtain ⟨A4, c4, A5, c5, rfl, _, _, _, _⟩ := k50_open hK2
        have yk := hcc2 1 (.int .i64 t.f1) rfl
        rw [show kTok.sz = 6 from rfl] at yk
        have HYK := Aside0.mk yk
        have hkd : kindAt T (fn : Int) = t.f1 := by
          unfold kindAt rd_T50
          rw [Int.toNat_natCast, List.getD_eq_getElem?_getD, ht]
          rfl
        have HKD := Aside0.mk hkd
        have hfl2 : (fn : Int) < (T.length : Int) := by omega
        clear hf hcellT ht hK2 hcc2 yk hkd hTl
        go_wp2_with fail
        refine (contains_any _ (l.take k) k cl s _ (C_take (Kd.C_below HL.out HB2.out) k hkl) (by omega)).mono ?_
        rintro e w3 ⟨rfl, hb⟩
        have HB3 := Aside0.mk (join_below HB2.out hb)
        have b3 := cell_after hb b2
        have HC3 := Aside0.mk (CourtAt.later HC.out HB3.out)
        clear b2 hb
        obtain ⟨bh, hbh⟩ : ∃ b, hasT (l.take k) s = b := ⟨_, rfl⟩
        have HBH := Aside0.mk hbh
        rw [hbh]
        clear hbh
        cases bh
        · go_wp2_with fail
          refine (must_yes 4 HC3.out).mono ?_
          rintro e w4 ⟨rfl, hb⟩
          have HB4 := Aside0.mk (join_below HB3.out hb)
          have b4 := cell_after hb b3
          have HC4 := Aside0.mk (CourtAt.later HC.out HB4.out)
          have yk := cell_after HB4.out HYK.out
          clear b3 hb
          by_cases c3 : t.f1 = kind
          · have d3 : (t.f1 == kind) = true := beq_iff_eq.2 c3
            have HN : Aside0 (namesS T kind (l.take (k + 1)) (l.drop (k + 1)) = res) := ⟨by rw [HTK.out, ← HI2.out, if_pos ⟨c1, HBH.out⟩, HKD.out, if_pos c3]⟩
            clear c3
            go_wp2_with fail
            refine (must_yes 5 HC4.out).mono ?_
            rintro e w5 ⟨rfl, hb⟩
            have HB5 := Aside0.mk (join_below HB4.out hb)
            clear hb b4 yk
            go_wp2
            go_roundw
            case rel => exact ⟨k + 1, by go_num, by omega, HN, HB5⟩
            case measure => simp [intOf]; omega
          · have d3 : (t.f1 == kind) = false := beq_eq_false_iff_ne.2 c3
            have HE : Aside0 (res = some 5) := ⟨by rw [← HI2.out, if_pos ⟨c1, HBH.out⟩, HKD.out, if_neg c3]⟩
            clear c3
            go_wp2_with fail
            refine (must_no 5 HC4.out).mono ?_
            rintro e w5 ⟨rfl, hb⟩
            have HB5 := Aside0.mk (join_below HB4.out hb)
            clear hb b4 yk
            go_wp2
            exact ⟨rfl, by rw [HE.out]; exact CourtPost.bad HB5.out⟩
        · have HE : Aside0 (res = some 4) := ⟨by rw [← HI2.out, if_neg (fun h => by rw [HBH.out] at h; cases h.2)]⟩
          go_wp2_with fail
          refine (must_no 4 HC3.out).mono ?_
          rintro e w4 ⟨rfl, hb⟩
          have HB4 := Aside0.mk (join_below HB3.out hb)
          clear hb b3
          go_wp2
          exact ⟨rfl, by rw [HE.out]; exact CourtPost.bad HB4.out⟩
      · have d1 : decide (0 ≤ f) = false := decide_eq_false c1
        have HE : Aside0 (res = some 4) := ⟨by rw [← HI2.out, if_neg (fun h => c1 h.1)]⟩
        clear c1 hf
        go_wp2_with fail
        refine (must_no 4 HC2.out).mono ?_
        rintro e w3 ⟨rfl, hb⟩
        have HB3 := Aside0.mk (join_below HB2.out hb)
        clear hb b2
        go_wp2
        exact ⟨rfl, by rw [HE.out]; exact CourtPost.bad HB3.out⟩
    · have e : k = l.length := by omega
      have HI2 : Aside0 (res = none) := ⟨by rw [← HI.out, e, List.drop_length]; rfl⟩
      clear e
      go_wp2
      first | go_end0 | refine bodyPost_ret (results_none rfl _ _ _) rfl ?_
      rw [HI2.out]
      exact CourtPost.ok HB.out
end Go.Proofs.YthdfmbmbjpmlaaaDoor.Rn
/- gram.Name. -/
set_option linter.unusedVariables false
set_option linter.unusedSimpArgs false
namespace Go.Proofs.YthdfmbmbjpmlaaaDoor.Rn
open Go Go.RowKit Go.Proofs.YthdfmbmbjpmlaaaDoorW.PrintWords Go.Proofs.YthdfmbmbjpmlaaaDoorW.PrintLast Go.Proofs.YthdfmbmbjpmlaaaDoorW.PrintMore
/-- words that are no names -/
def ownL : List ByteArray := [⟨#[116, 111, 107]⟩, ⟨#[114, 117, 108, 101]⟩, ⟨#[105, 110, 116]⟩, ⟨#[99, 97, 108, 108]⟩, ⟨#[114, 101, 116]⟩, ⟨#[102, 114, 101, 101]⟩]
def OwnAt (W : World) : Prop := Kd.string.C W (some ⟨0, 0, none⟩) 6 ownL
theorem OwnAt.below {W W' : World} {b : Nat} (h : OwnAt W) (hb : Below b W W') (hs : W.heap.size ≤ b) : OwnAt W' := Kd.C_below h (hb.mono hs)
def letterS (i : Nat) (c : UInt8) : Bool := decide (97 ≤ c.toNat ∧ c.toNat ≤ 122) || decide (0 < i ∧ 48 ≤ c.toNat ∧ c.toNat ≤ 57)
def lettersS : Nat → List UInt8 → Bool
  | _, [] => true
  | i, c :: l => letterS i c && lettersS (i + 1) l
/-- is it a name? -/
def nameS (s : ByteArray) : Bool := lettersS 0 s.toList && (decide (1 ≤ s.size ∧ s.size ≤ 12) && !hasT ownL s)
theorem toList_length (s : ByteArray) : s.toList.length = s.size := by
  rw [ByteArray.toList_eq]
  rfl
theorem toList_get (s : ByteArray) (k : Nat) (h : k < s.size) : s.toList[k]? = some s[k] := by
  rw [ByteArray.toList_eq]
  exact List.getElem?_eq_getElem (h := h)
set_option maxHeartbeats 2000000 in
set_option maxRecDepth 100000 in
theorem name_any (s : ByteArray) (hs : s.size ≤ 9223372036854775807) (W : World) (hO : OwnAt W) :
    Calls Tryd.prog 19 #[.string s] W fun e W' => e = .returned (.bool (nameS s)) ∧ Below W.heap.size W W' := by
  obtain ⟨res, hres⟩ : ∃ r, nameS s = r := ⟨_, rfl⟩
  rw [hres]
  have HR : Aside0 ((lettersS 0 (s.toList.drop 0) && (decide (1 ≤ s.size ∧ s.size ≤ 12) && !hasT ownL s)) = res) := ⟨hres⟩
  have HO := Aside0.mk hO
  clear hO hres
  go_enter Tryd.func19, Tryd.ntmps19
  go_wp2
  go_loopw [7] (fun i w' => ∃ k : Nat, i = .int .i64 k ∧ k ≤ s.size ∧ Aside0 ((lettersS k (s.toList.drop k) && (decide (1 ≤ s.size ∧ s.size ≤ 12) && !hasT ownL s)) = res) ∧ w' = W) (fun i _ => s.size - (intOf i).toNat)
  case atStart => exact ⟨0, rfl, Nat.zero_le _, HR, rfl⟩
  case round =>
    obtain ⟨k, rfl, hkl, HI, rfl⟩ := hrel
    by_cases hlt : k < s.size
    · have hdk : s.toList.drop k = s[k] :: s.toList.drop (k + 1) := by
        have h := toList_get s k hlt
        have hl : k < s.toList.length := by rw [toList_length]; exact hlt
        rw [List.drop_eq_getElem_cons hl]
        rw [List.getElem?_eq_getElem hl] at h
        rw [Option.some.inj h]
      have hI := HI.out
      rw [hdk, lettersS] at hI
      have HI2 := Aside0.mk hI
      clear hI HI hdk
      obtain ⟨c, hc⟩ : ∃ c : Nat, (s[k]).toNat = c := ⟨_, rfl⟩
      have hq : (((97 : Int) ≤ c ∧ (c : Int) ≤ 122) ∨ ((c : Int) < 97 ∧ 0 < k ∧ (48 : Int) ≤ c ∧ (c : Int) ≤ 57)) ∨ (((97 : Int) ≤ c ∧ (122 : Int) < c ∧ ¬ 0 < k) ∨ ((97 : Int) ≤ c ∧ (122 : Int) < c ∧ 0 < k) ∨ ((c : Int) < 97 ∧ ¬ 0 < k) ∨ ((c : Int) < 97 ∧ 0 < k ∧ (c : Int) < 48) ∨ ((c : Int) < 97 ∧ 0 < k ∧ (48 : Int) ≤ c ∧ (57 : Int) < c)) := by omega
      rcases hq with hq | hq
      · have hI := HI2.out
        rw [show letterS k s[k] = true from by simp only [letterS, hc, Bool.or_eq_true, decide_eq_true_eq]; omega, Bool.true_and] at hI
        have HI := Aside0.mk hI
        clear hI HI2
        rcases hq with ⟨g1, g2⟩ | ⟨g1, g2, g3, g4⟩
        all_goals
          try have d1 : decide ((97 : Int) ≤ c) = false := decide_eq_false (by omega)
          try have d2 : decide ((c : Int) ≤ 122) = false := decide_eq_false (by omega)
          try have d3 : decide ((48 : Int) ≤ c) = false := decide_eq_false (by omega)
          try have d4 : decide ((c : Int) ≤ 57) = false := decide_eq_false (by omega)
          go_wp2
          go_roundw
          case rel => exact ⟨k + 1, by go_num, by omega, HI, trivial⟩
          case measure => simp [intOf]; omega
      · have hI := HI2.out
        rw [show letterS k s[k] = false from by simp only [letterS, hc, Bool.or_eq_false_iff, decide_eq_false_iff_not]; omega, Bool.false_and, Bool.false_and] at hI
        have HI := Aside0.mk hI
        clear hI HI2
        rcases hq with ⟨g1, g2, g3⟩ | ⟨g1, g2, g3⟩ | ⟨g1, g2⟩ | ⟨g1, g2, g3⟩ | ⟨g1, g2, g3, g4⟩
        all_goals
          try have d1 : decide ((97 : Int) ≤ c) = false := decide_eq_false (by omega)
          try have d2 : decide ((c : Int) ≤ 122) = false := decide_eq_false (by omega)
          try have d3 : decide ((48 : Int) ≤ c) = false := decide_eq_false (by omega)
          try have d4 : decide ((c : Int) ≤ 57) = false := decide_eq_false (by omega)
          go_wp2
          go_ret
          exact ⟨by rw [← HI.out]; rfl, Below.refl _ _⟩
    · have e : k = s.size := by omega
      have hI := HI.out
      rw [List.drop_of_length_le (by rw [toList_length]; omega), lettersS, Bool.true_and] at hI
      have HI2 := Aside0.mk hI
      clear hI HI
      by_cases g1 : (1 : Int) ≤ s.size
      · by_cases g2 : (s.size : Int) ≤ 12
        · go_wp2_with fail
          refine (contains_any _ ownL 6 6 s _ HO.out (Nat.le_refl _)).mono ?_
          rintro e w2 ⟨rfl, hb⟩
          have HB := Aside0.mk hb
          have hI := HI2.out
          rw [decide_eq_true (by omega), Bool.true_and] at hI
          have HI := Aside0.mk hI
          clear hI HI2 hb
          go_wp2
          go_ret
          exact ⟨by rw [← HI.out]; rfl, HB.out⟩
        · have hI := HI2.out
          rw [decide_eq_false (by omega), Bool.false_and] at hI
          have HI := Aside0.mk hI
          clear hI HI2
          go_wp2
          go_ret
          exact ⟨by rw [← HI.out]; rfl, Below.refl _ _⟩
      · have hI := HI2.out
        rw [decide_eq_false (by omega), Bool.false_and] at hI
        have HI := Aside0.mk hI
        clear hI HI2
        go_wp2
        go_ret
        exact ⟨by rw [← HI.out]; rfl, Below.refl _ _⟩
end Go.Proofs.YthdfmbmbjpmlaaaDoor.Rn
/- regex.within: few nodes, not deep. -/
set_option linter.unusedVariables false
set_option linter.unusedSimpArgs false
namespace Go.Proofs.YthdfmbmbjpmlaaaDoor.Rn
open Go Go.RowKit Go.Proofs.YthdfmbmbjpmlaaaDoorW.PrintWords Go.Proofs.YthdfmbmbjpmlaaaDoorW.PrintLast Go.Proofs.YthdfmbmbjpmlaaaDoorW.PrintMore
abbrev Re := S48
abbrev kRe := k48
set_option maxHeartbeats 1000000 in
set_option maxRecDepth 100000 in
theorem within_index (xs : List S48) (A : Option Addr) (c : Nat) (bg bd : Nat) (I J : Nat → World → Prop) (w0 w : World) (hC : k48.C w0 A xs.length xs) (hB : ∀ i W, I i W → Below w0.heap.size w0 W)
    (hstep : ∀ i x cs W, xs[i]? = some x → I i W → k48.K w0 x cs → Calls Tryd.prog 59 #[.agg cs.toArray, .pointer (some ⟨bg, 0, none⟩), .pointer (some ⟨bd, 0, none⟩)] W (CbPost (J i) (I (i + 1)))) (h0 : I 0 w) :
    Calls Tryd.prog 66 #[.slice A xs.length c, .func (.func 59) #[] #[.pointer (some ⟨bg, 0, none⟩), .pointer (some ⟨bd, 0, none⟩)]] w (IdxPost xs.length I J) := by
  have hl : xs.length ≤ 9223372036854775807 := hC.2.1
  have HC := Aside0.mk hC
  have HB := Aside0.mk hB
  have HS := Aside0.mk hstep
  have H0 := Aside0.mk h0
  clear hC hB hstep h0
  go_enter Tryd.func66, Tryd.ntmps66
  go_wp2
  go_loopw [8] (fun i W => ∃ k : Nat, i = .int .i64 k ∧ k ≤ xs.length ∧ Aside0 (I k W)) (fun i _ => xs.length - (intOf i).toNat)
  case atStart => exact ⟨0, rfl, Nat.zero_le _, H0⟩
  case round =>
    obtain ⟨k, rfl, hkl, HI⟩ := hrel
    by_cases hlt : k < xs.length
    · obtain ⟨g, o, rfl, _, hcell⟩ := row_cells HC.out (by omega) (by decide)
      obtain ⟨x, hx⟩ : ∃ x, xs[k]? = some x := ⟨_, List.getElem?_eq_getElem hlt⟩
      obtain ⟨cs, hcl, hK, hcc⟩ := hcell k x hx
      have HK := Aside0.mk hK
      obtain ⟨A1, c1, A2, c2, rfl, l1, g1, l2, g2⟩ := k48_open hK
      have y0 := cell_after (HB.out k _ HI.out) (hcc 0 (.int .i64 x.f0) rfl)
      rw [Nat.add_zero] at y0
      have y1 := cell_after (HB.out k _ HI.out) (hcc 1 (.slice A1 x.f1.length c1) rfl)
      have y2 := cell_after (HB.out k _ HI.out) (hcc 2 (.slice A2 x.f2.length c2) rfl)
      simp only [show k48.sz = 3 from rfl] at y0 y1 y2
      have HX := Aside0.mk hx
      clear hcell hcc hx hK hcl
      go_wp2_with fail
      refine (HS.out k x _ _ HX.out HI.out HK.out).mono ?_
      rintro e w2 hp
      rcases hp with ⟨rfl, hj⟩ | ⟨rfl, hi⟩
      · have HJ := Aside0.mk hj
        clear hj
        go_wp2
        go_ret
        exact Or.inl ⟨k, hlt, rfl, HJ.out⟩
      · have HI2 := Aside0.mk hi
        clear hi
        go_wp2
        go_roundw
        case rel => exact ⟨k + 1, by go_num, by omega, HI2⟩
        case measure => simp [intOf]; omega
    · obtain ⟨n, hn⟩ : ∃ n, xs.length = n := ⟨_, rfl⟩
      have e : k = xs.length := by omega
      have HI2 : Aside0 (I xs.length _) := ⟨e ▸ HI.out⟩
      clear e hn n
      go_wp2
      go_ret
      exact Or.inr ⟨rfl, HI2.out⟩
set_option maxHeartbeats 1000000 in
theorem within_contains (xs : List S48) (A : Option Addr) (c : Nat) (bg bd : Nat) (I J : Nat → World → Prop) (w0 w : World) (hC : k48.C w0 A xs.length xs) (hB : ∀ i W, I i W → Below w0.heap.size w0 W)
    (hstep : ∀ i x cs W, xs[i]? = some x → I i W → k48.K w0 x cs → Calls Tryd.prog 59 #[.agg cs.toArray, .pointer (some ⟨bg, 0, none⟩), .pointer (some ⟨bd, 0, none⟩)] W (CbPost (J i) (I (i + 1)))) (h0 : I 0 w) :
    Calls Tryd.prog 58 #[.slice A xs.length c, .func (.func 59) #[] #[.pointer (some ⟨bg, 0, none⟩), .pointer (some ⟨bd, 0, none⟩)]] w (ConPost xs.length I J) := by
  have hl : xs.length ≤ 9223372036854775807 := hC.2.1
  have HC := Aside0.mk hC
  have HB := Aside0.mk hB
  have HS := Aside0.mk hstep
  have H0 := Aside0.mk h0
  clear hC hB hstep h0
  go_enter Tryd.func58, Tryd.ntmps58
  go_wp2_with fail
  refine (within_index xs A c bg bd I J w0 _ HC.out HB.out HS.out H0.out).mono ?_
  rintro e w2 hp
  rcases hp with ⟨i, hi, rfl, hj⟩ | ⟨rfl, hi⟩
  · have HJ := Aside0.mk hj
    have h0 : (0 : Int) ≤ (i : Int) := by omega
    clear hj
    go_wp2
    go_ret
    exact Or.inl ⟨rfl, i, hi, HJ.out⟩
  · have HI := Aside0.mk hi
    clear hi
    go_wp2
    go_ret
    exact Or.inr ⟨rfl, HI.out⟩
mutual
/-- few nodes, not deep: is it so, and how many are left -/
def wtR : Re → Int → Int → Bool × Int
  | ⟨_, _, l⟩, deep, n => if 0 ≤ n - 1 ∧ deep ≤ 12 then wtL l (deep + 1) (n - 1) else (false, n - 1)
def wtL : List Re → Int → Int → Bool × Int
  | [], _, n => (true, n)
  | x :: l, deep, n => if (wtR x deep n).1 = true then wtL l deep (wtR x deep n).2 else (false, (wtR x deep n).2)
end
theorem wtL_yes {x : Re} {l : List Re} {deep n : Int} (h : (wtR x deep n).1 = true) : wtL (x :: l) deep n = wtL l deep (wtR x deep n).2 := by
  simp only [wtL]
  rw [if_pos h]
theorem wtL_no {x : Re} {l : List Re} {deep n : Int} (h : ¬ (wtR x deep n).1 = true) : wtL (x :: l) deep n = (false, (wtR x deep n).2) := by
  simp only [wtL]
  rw [if_neg h]
theorem wtL_append (b : List Re) : ∀ (a : List Re) (deep n : Int), wtL (a ++ b) deep n = if (wtL a deep n).1 = true then wtL b deep (wtL a deep n).2 else wtL a deep n
  | [], deep, n => by
    simp only [List.nil_append, wtL, if_true]
  | x :: a, deep, n => by
    by_cases h : (wtR x deep n).1 = true
    · rw [List.cons_append, wtL_yes h, wtL_yes h]
      exact wtL_append b a deep _
    · rw [List.cons_append, wtL_no h, wtL_no h]
      rfl
theorem wtL_snoc {l : List Re} {k : Nat} {x : Re} (hx : l[k]? = some x) {deep n m : Int} (h : wtL (l.take k) deep n = (true, m)) : wtL (l.take (k + 1)) deep n = wtR x deep m := by
  rw [List.take_add_one, hx, wtL_append, h]
  simp only [if_true, Option.toList_some, wtL]
  by_cases c : (wtR x deep m).1 = true
  · rw [if_pos c]
    exact Prod.ext c.symm rfl
  · rw [if_neg c]
    exact Prod.ext (by simpa using c) rfl
theorem wtL_front {l : List Re} {k : Nat} {deep n m : Int} (h : wtL (l.take k) deep n = (false, m)) : wtL l deep n = (false, m) := by
  have e := wtL_append (l.drop k) (l.take k) deep n
  rw [List.take_append_drop, h] at e
  simpa using e
mutual
theorem wtR_bd : ∀ (x : Re) (deep n : Int), 0 ≤ n → -1 ≤ (wtR x deep n).2 ∧ (wtR x deep n).2 ≤ n ∧ ((wtR x deep n).1 = true → 0 ≤ (wtR x deep n).2)
  | ⟨_, _, l⟩, deep, n, h => by
    unfold wtR
    by_cases c : 0 ≤ n - 1 ∧ deep ≤ 12
    · rw [if_pos c]
      have := wtL_bd l (deep + 1) (n - 1) c.1
      exact ⟨this.1, by omega, this.2.2⟩
    · rw [if_neg c]
      exact ⟨by show -1 ≤ n - 1; omega, by show n - 1 ≤ n; omega, fun e => by cases e⟩
theorem wtL_bd : ∀ (l : List Re) (deep n : Int), 0 ≤ n → -1 ≤ (wtL l deep n).2 ∧ (wtL l deep n).2 ≤ n ∧ ((wtL l deep n).1 = true → 0 ≤ (wtL l deep n).2)
  | [], deep, n, h => ⟨by show -1 ≤ n; omega, Int.le_refl _, fun _ => h⟩
  | x :: l, deep, n, h => by
    have hx := wtR_bd x deep n h
    simp only [wtL]
    by_cases c : (wtR x deep n).1 = true
    · rw [if_pos c]
      have := wtL_bd l deep (wtR x deep n).2 (hx.2.2 c)
      exact ⟨this.1, by omega, this.2.2⟩
    · rw [if_neg c]
      exact ⟨hx.1, hx.2.1, fun e => by cases e⟩
end
def fnW (bl bg : Nat) : Value := .func (.func 57) #[] #[.pointer (some ⟨bl, 0, none⟩), .pointer (some ⟨bg, 0, none⟩)]
def StW (w0 : World) (bl bg : Nat) (n : Int) (W : World) : Prop := Below w0.heap.size w0 W ∧ W.heap[bl]? = some (.cells #[.int .i64 n] 3 (0, 0)) ∧ W.cell? ⟨bg, 0, none⟩ = some (fnW bl bg)
def GoPost (b : Bool) (n : Int) (bl : Nat) (W : World) (e : Ending) (W' : World) : Prop := e = .returned (.bool b) ∧ W.grownBy W' (some bl) ∧ W'.heap[bl]? = some (.cells #[.int .i64 n] 3 (0, 0))
def GoW (x : Re) : Prop := ∀ (w0 W : World) (bl bg : Nat) (cs : List Value) (deep n : Int), w0.heap.size ≤ bl → w0.heap.size ≤ bg → bl ≠ bg → 0 ≤ n → n ≤ 60 → 1 ≤ deep → deep ≤ 13 → kRe.K w0 x cs → StW w0 bl bg n W →
  Calls Tryd.prog 57 #[.agg cs.toArray, .int .i64 deep, .pointer (some ⟨bl, 0, none⟩), .pointer (some ⟨bg, 0, none⟩)] W (GoPost (wtR x deep n).1 (wtR x deep n).2 bl W)
theorem StW.grown {w0 W W' : World} {bl bg : Nat} {n m : Int} (h : StW w0 bl bg n W) (hl : w0.heap.size ≤ bl) (hne : bl ≠ bg) (hg : W.grownBy W' (some bl)) (hc : W'.heap[bl]? = some (.cells #[.int .i64 m] 3 (0, 0))) : StW w0 bl bg m W' :=
  ⟨Below.grown h.1 hg h.1.size (fun k hk => by obtain rfl := Option.some.inj hk; exact hl), hc, grown_cell hg h.2.2 (fun e => hne e.symm)⟩
/-- the function value within: not within, for a part -/
def NoPost (b : Bool) (n : Int) (bl : Nat) (W : World) (e : Ending) (W' : World) : Prop := e = .returned (.bool (!b)) ∧ W.grownBy W' (some bl) ∧ W'.heap[bl]? = some (.cells #[.int .i64 n] 3 (0, 0))
set_option maxHeartbeats 1000000 in
set_option maxRecDepth 100000 in
theorem within_part {x : Re} (hx : GoW x) (w0 W : World) (bl bg bd : Nat) (cs : List Value) (deep n : Int) (h1 : w0.heap.size ≤ bl) (h2 : w0.heap.size ≤ bg) (h3 : bl ≠ bg) (h4 : 0 ≤ n) (h5 : n ≤ 60) (h6 : 1 ≤ deep) (h7 : deep ≤ 12) (hK : kRe.K w0 x cs) (hS : StW w0 bl bg n W) (hd : W.cell? ⟨bd, 0, none⟩ = some (.int .i64 deep)) :
    Calls Tryd.prog 59 #[.agg cs.toArray, .pointer (some ⟨bg, 0, none⟩), .pointer (some ⟨bd, 0, none⟩)] W (NoPost (wtR x (deep + 1) n).1 (wtR x (deep + 1) n).2 bl W) := by
  have HX := Aside0.mk hx
  have HK := Aside0.mk hK
  obtain ⟨A1, c1, A2, c2, rfl, _, _, _, _⟩ := k48_open hK
  obtain ⟨s1, s2, s3⟩ := hS
  have n1 : bl < W.heap.size := blk_lt s2
  have n2 : bg < W.heap.size := blk_lt' s3
  have n3 : bd < W.heap.size := blk_lt' hd
  have m1 : bg ≠ W.heap.size := by omega
  have m2 : bd ≠ W.heap.size := by omega
  have HS : Aside0 (∀ o, StW w0 bl bg n (W.alloc o)) := ⟨fun o => StW.grown ⟨s1, s2, s3⟩ h1 h3 (World.grownBy_alloc W o _) (blk_alloc s2 o)⟩
  have HG : Aside0 (∀ o, W.grownBy (W.alloc o) (some bl)) := ⟨fun o => World.grownBy_alloc W o _⟩
  unfold fnW at s3
  have y3 : ∀ o, (W.alloc o).cell? ⟨bg, 0, none⟩ = some (.func (.func 57) #[] #[.pointer (some ⟨bl, 0, none⟩), .pointer (some ⟨bg, 0, none⟩)]) := fun o => ((below1 W o).cell (p := ⟨bg, 0, none⟩) n2).trans s3
  have yd : ∀ o, (W.alloc o).cell? ⟨bd, 0, none⟩ = some (.int .i64 deep) := fun o => ((below1 W o).cell (p := ⟨bd, 0, none⟩) n3).trans hd
  have HP : Aside0 (1 ≤ deep + 1 ∧ deep + 1 ≤ 13) := ⟨by omega⟩
  clear hK hx s1 s2 s3 hd n1 n2 n3
  go_enter Tryd.func59, Tryd.ntmps59
  go_wp2_with fail
  refine (HX.out w0 _ bl bg _ (deep + 1) n h1 h2 h3 h4 h5 HP.out.1 HP.out.2 HK.out (HS.out _)).mono ?_
  rintro e w2 ⟨rfl, hg, hc⟩
  have HGC := Aside0.mk (And.intro ((HG.out _).trans hg) hc)
  clear hg hc
  go_wp2
  go_ret
  exact ⟨rfl, HGC.out.1, HGC.out.2⟩
/-- how far the parts are looked at -/
def PartsI (l : List Re) (deep n : Int) (bl : Nat) (Wb : World) (i : Nat) (W : World) : Prop := Wb.grownBy W (some bl) ∧ ∃ m, wtL (l.take i) deep n = (true, m) ∧ W.heap[bl]? = some (.cells #[.int .i64 m] 3 (0, 0))
def PartsJ (l : List Re) (deep n : Int) (bl : Nat) (Wb W : World) : Prop := Wb.grownBy W (some bl) ∧ ∃ m, wtL l deep n = (false, m) ∧ W.heap[bl]? = some (.cells #[.int .i64 m] 3 (0, 0))
theorem within_parts (x : Re) (hx : ∀ y, y ∈ x.f2 → GoW y) (w0 Wb : World) (bl bg bd : Nat) (A : Option Addr) (c : Nat) (deep n : Int) (h1 : w0.heap.size ≤ bl) (h2 : w0.heap.size ≤ bg) (h3 : bl ≠ bg) (h4 : 0 ≤ n) (h5 : n ≤ 60) (h6 : 1 ≤ deep) (h7 : deep ≤ 12) (hC : kRe.C w0 A x.f2.length x.f2) (hS : StW w0 bl bg n Wb) (hd : Wb.cell? ⟨bd, 0, none⟩ = some (.int .i64 deep)) (hbd : bd ≠ bl) :
    Calls Tryd.prog 58 #[.slice A x.f2.length c, .func (.func 59) #[] #[.pointer (some ⟨bg, 0, none⟩), .pointer (some ⟨bd, 0, none⟩)]] Wb (ConPost x.f2.length (PartsI x.f2 (deep + 1) n bl Wb) (fun _ => PartsJ x.f2 (deep + 1) n bl Wb)) := by
  have hgr : ∀ i W, PartsI x.f2 (deep + 1) n bl Wb i W → ∃ m, wtL (x.f2.take i) (deep + 1) n = (true, m) ∧ 0 ≤ m ∧ m ≤ n ∧ Wb.grownBy W (some bl) ∧ StW w0 bl bg m W := fun i W hI => by
    obtain ⟨hg, m, hm, hc⟩ := hI
    have hbm := wtL_bd (x.f2.take i) (deep + 1) n h4
    rw [hm] at hbm
    exact ⟨m, hm, hbm.2.2 rfl, hbm.2.1, hg, StW.grown hS h1 h3 hg hc⟩
  refine within_contains x.f2 A c bg bd _ _ w0 Wb hC (fun i W hI => (hgr i W hI).elim fun m h => h.2.2.2.2.1) (fun i y cs W hy hI hK => ?_) ⟨World.grownBy.refl _ _, n, rfl, hS.2.1⟩
  obtain ⟨m, hm, hm0, hm1, hg, hSt⟩ := hgr i W hI
  have hs := wtL_snoc hy hm
  refine (within_part (hx y (List.mem_of_getElem? hy)) w0 W bl bg bd cs deep m h1 h2 h3 hm0 (by omega) h6 h7 hK hSt (grown_cell hg hd hbd)).mono ?_
  rintro e W2 ⟨rfl, hg2, hc2⟩
  have hg3 := hg.trans hg2
  cases hb : (wtR y (deep + 1) m).1
  · refine Or.inl ⟨rfl, hg3, (wtR y (deep + 1) m).2, ?_, hc2⟩
    exact wtL_front (hs.trans (Prod.ext hb rfl))
  · exact Or.inr ⟨rfl, hg3, (wtR y (deep + 1) m).2, hs.trans (Prod.ext hb rfl), hc2⟩
theorem go_world {W : World} {bl : Nat} {n : Int} (hb : W.heap[bl]? = some (.cells #[.int .i64 n] 3 (0, 0))) (o1 : Obj) (deep m : Int) :
    W.grownBy (((W.alloc o1).alloc (.cells #[.int .i64 deep] 3)).setCell ⟨bl, 0, none⟩ (.int .i64 m)) (some bl) ∧ (((W.alloc o1).alloc (.cells #[.int .i64 deep] 3)).setCell ⟨bl, 0, none⟩ (.int .i64 m)).heap[bl]? = some (.cells #[.int .i64 m] 3 (0, 0)) ∧
    (((W.alloc o1).alloc (.cells #[.int .i64 deep] 3)).setCell ⟨bl, 0, none⟩ (.int .i64 m)).cell? ⟨W.heap.size + 1, 0, none⟩ = some (.int .i64 deep) := by
  have hlt := blk_lt hb
  have h2 := blk_alloc (blk_alloc hb o1) (.cells #[.int .i64 deep] 3)
  have hnew := blk_new (W.alloc o1) (.cells #[.int .i64 deep] 3)
  have hsz : (W.alloc o1).heap.size = W.heap.size + 1 := by simp
  rw [hsz] at hnew
  refine ⟨(World.grownBy_alloc W o1 _).trans ((World.grownBy_alloc _ _ _).trans (grownBy_setCell' _ bl _)), blk_put h2 0 _ rfl, ?_⟩
  exact (blk_cell (blk_far hnew (show W.heap.size + 1 ≠ bl by omega) _) 0).trans rfl
set_option maxHeartbeats 1000000 in
set_option maxRecDepth 100000 in
theorem within_go (x : Re) (hx : ∀ y, y ∈ x.f2 → GoW y) : GoW x := by
  intro w0 W bl bg cs deep n h1 h2 h3 h4 h5 h6 h7 hK hS
  have HK := Aside0.mk hK
  obtain ⟨A1, p1, A2, p2, rfl, _, _, _, hC2⟩ := k48_open hK
  have HC2 := Aside0.mk hC2
  obtain ⟨s1, s2, s3⟩ := hS
  have n1 : bl < W.heap.size := blk_lt s2
  have n2 : bg < W.heap.size := blk_lt' s3
  have m1 : bl ≠ W.heap.size := by omega
  have m2 : bl ≠ W.heap.size + 1 := by omega
  have HHS := Aside0.mk (show StW w0 bl bg n W from ⟨s1, s2, s3⟩)
  have HHX := Aside0.mk hx
  have HGW := Aside0.mk (go_world s2 (.cells #[.int .i64 x.f0, .slice A1 x.f1.length p1, .slice A2 x.f2.length p2] 48) deep (n - 1))
  have e1 : wtR x deep n = if 0 ≤ n - 1 ∧ deep ≤ 12 then wtL x.f2 (deep + 1) (n - 1) else (false, n - 1) := by
    cases x
    rfl
  have y2 : ∀ o o2, ((W.alloc o).alloc o2).cell? ⟨bl, 0, none⟩ = some (.int .i64 n) := fun o o2 => (blk_cell (blk_alloc (blk_alloc s2 o) o2) 0).trans rfl
  have z2 : ∀ o o2, ((W.alloc o).alloc o2).frozen? ⟨bl, 0, none⟩ = false := fun o o2 => blk_frozen (blk_alloc (blk_alloc s2 o) o2) 0
  clear hK hx s1 s2 s3 n1 n2 hC2
  by_cases c1 : 0 ≤ n - 1
  · by_cases c2 : deep ≤ 12
    · rw [if_pos ⟨c1, c2⟩] at e1
      rw [e1]
      clear e1
      have HD : Aside0 (W.heap.size + 1 ≠ bl) := ⟨fun e => m2 e.symm⟩
      go_enter Tryd.func57, Tryd.ntmps57
      go_wp2_with fail
      refine (within_parts x HHX.out w0 _ bl bg (W.heap.size + 1) A2 p2 deep (n - 1) h1 h2 h3 c1 (by omega) h6 c2 HC2.out (StW.grown HHS.out h1 h3 HGW.out.1 HGW.out.2.1) HGW.out.2.2 HD.out).mono ?_
      rintro e w2 hp
      rcases hp with ⟨rfl, _, _, hg, m, hm, hc⟩ | ⟨rfl, hg, m, hm, hc⟩
      · have HP := Aside0.mk (And.intro (HGW.out.1.trans hg) (And.intro hm hc))
        clear hg hm hc
        go_wp2
        go_ret
        rw [HP.out.2.1]
        exact ⟨rfl, HP.out.1, HP.out.2.2⟩
      · rw [List.take_length] at hm
        have HP := Aside0.mk (And.intro (HGW.out.1.trans hg) (And.intro hm hc))
        clear hg hm hc
        go_wp2
        go_ret
        rw [HP.out.2.1]
        exact ⟨rfl, HP.out.1, HP.out.2.2⟩
    · rw [if_neg (fun h => c2 h.2)] at e1
      rw [e1]
      have hd : decide (deep ≤ 12) = false := decide_eq_false c2
      clear e1
      go_enter Tryd.func57, Tryd.ntmps57
      go_wp2
      go_ret
      exact ⟨rfl, HGW.out.1, HGW.out.2.1⟩
  · rw [if_neg (fun h => c1 h.1)] at e1
    rw [e1]
    have hd : decide (0 ≤ n - 1) = false := decide_eq_false c1
    have hd2 : decide (1 ≤ n) = false := decide_eq_false (by omega)
    clear e1
    go_enter Tryd.func57, Tryd.ntmps57
    go_wp2
    go_ret
    exact ⟨rfl, HGW.out.1, HGW.out.2.1⟩
theorem go_all : ∀ (N : Nat) (x : Re), SizeOf.sizeOf x < N → GoW x
  | 0, x, h => absurd h (Nat.not_lt_zero _)
  | N + 1, x, h => within_go x (fun y hy => go_all N y (by
      have h1 := List.sizeOf_lt_of_mem hy
      have h2 : SizeOf.sizeOf x.f2 < SizeOf.sizeOf x := by
        cases x
        simp
        omega
      omega))
def regex_within.f (a0 : Int) (l1 : List Rg) (l2 : List Re) : Option Bool := some (wtR ⟨a0, l1, l2⟩ 1 60).1
theorem run_store_func {P : Program} {w : World} {a : Addr} {m : Mode} (f : Fn) (ts bs : Array Value) : (store a (.func f ts bs) m).run P w = stored P w a (.func f ts bs) m := run_store P w a _ m rfl
attribute [local go_sem] run_store_func
theorem third (w : World) (o1 o2 : Obj) (cs : Array Value) (t : TypeId) : (((w.alloc o1).alloc o2).alloc (.cells cs t)).heap[w.heap.size + 1 + 1]? = some (.cells cs t (0, 0)) := by
  have h := blk_new ((w.alloc o1).alloc o2) (.cells cs t)
  simpa using h
theorem second (w : World) (o1 : Obj) (cs : Array Value) (t : TypeId) : ((w.alloc o1).alloc (.cells cs t)).heap[w.heap.size + 1]? = some (.cells cs t (0, 0)) := by
  have h := blk_new (w.alloc o1) (.cells cs t)
  simpa using h
/-- where the work begins -/
theorem start_world (w : World) (o1 : Obj) :
    Below w.heap.size w (((w.alloc o1).alloc (.cells #[.int .i64 60] 3)).alloc (.cells #[fnW (w.heap.size + 1) (w.heap.size + 1 + 1)] 94)) ∧
    StW w (w.heap.size + 1) (w.heap.size + 1 + 1) 60 (((w.alloc o1).alloc (.cells #[.int .i64 60] 3)).alloc (.cells #[fnW (w.heap.size + 1) (w.heap.size + 1 + 1)] 94)) := by
  have h3 := third w o1 (.cells #[.int .i64 60] 3) #[fnW (w.heap.size + 1) (w.heap.size + 1 + 1)] 94
  have h2 := blk_alloc (second w o1 #[.int .i64 60] 3) (.cells #[fnW (w.heap.size + 1) (w.heap.size + 1 + 1)] 94)
  have hB := below_alloc (below_alloc (below1 w o1) (.cells #[.int .i64 60] 3)) (.cells #[fnW (w.heap.size + 1) (w.heap.size + 1 + 1)] 94)
  exact ⟨hB, hB, h2, (blk_cell h3 0).trans rfl⟩
set_option maxHeartbeats 1000000 in
set_option maxRecDepth 100000 in
theorem regex_within.calls (a0_0 : Int) (A0_1 : Option Addr) (c0_1 : Nat) (l0_1 : List Rg) (A0_2 : Option Addr) (c0_2 : Nat) (l0_2 : List Re) (r : Bool) (w : World) (hr0_1 : Kd.C k56 w A0_1 l0_1.length l0_1) (hc0_1 : l0_1.length ≤ c0_1) (hr0_2 : Kd.C k48 w A0_2 l0_2.length l0_2) (hc0_2 : l0_2.length ≤ c0_2) (h : regex_within.f a0_0 l0_1 l0_2 = some r) :
    Calls Tryd.prog 52 #[.agg #[.int .i64 a0_0, .slice A0_1 l0_1.length c0_1, .slice A0_2 l0_2.length c0_2]] w fun e w' => e = .returned (.bool r) ∧ Below w.heap.size w w' := by
  obtain rfl := Option.some.inj h
  clear h
  have hK : kRe.K w ⟨a0_0, l0_1, l0_2⟩ [.int .i64 a0_0, .slice A0_1 l0_1.length c0_1, .slice A0_2 l0_2.length c0_2] := k48_mk w ⟨a0_0, l0_1, l0_2⟩ hc0_1 hr0_1 hc0_2 hr0_2
  have HK := Aside0.mk hK
  have HG := Aside0.mk (go_all (SizeOf.sizeOf (⟨a0_0, l0_1, l0_2⟩ : Re) + 1) ⟨a0_0, l0_1, l0_2⟩ (Nat.lt_succ_self _))
  have HW := Aside0.mk (start_world w (.cells #[.int .i64 a0_0, .slice A0_1 l0_1.length c0_1, .slice A0_2 l0_2.length c0_2] 48))
  clear hK hr0_1 hr0_2 hc0_1 hc0_2
  go_enter Tryd.func52, Tryd.ntmps52
  go_wp2_with fail
  refine (HG.out w _ (w.heap.size + 1) (w.heap.size + 1 + 1) _ 1 60 (by omega) (by omega) (by omega) (by decide) (by decide) (by decide) (by decide) HK.out HW.out.2).mono ?_
  rintro e w2 ⟨rfl, hg, hc⟩
  have HB := Aside0.mk (Below.grown HW.out.1 hg HW.out.1.size (fun k hk => by obtain rfl := Option.some.inj hk; omega))
  clear hg hc
  go_wp2
  go_ret
  exact ⟨rfl, HB.out⟩
end Go.Proofs.YthdfmbmbjpmlaaaDoor.Rn
