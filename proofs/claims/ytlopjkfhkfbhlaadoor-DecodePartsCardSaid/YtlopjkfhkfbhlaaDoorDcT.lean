/- What the row's listed variables read as, as a premise on the world: utf8's two tables stand there. Conditions: the row lists unicode/utf8.acceptRanges and unicode/utf8.first. -/
import Derived.Test.YtlopjkfhkfbhlaaDoorDcS
import Derived.Test.YtlopjkfhkfbhlaaDoorRows
import Derived.Lib.LaidU8T
import Derived.PinnedBridge
import Derived.LaidOnce
import Derived.Lay
import Derived.OpenShut
import Derived.SizedLaws
import Derived.ProofKit
import Derived.SevenTiedAt
set_option linter.unusedVariables false
namespace Go.Proofs.YtlopjkfhkfbhlaaDoor.Dec
open Go Go.RowKit Go.Shelf Go.Lib Go.Proofs.YtlopjkfhkfbhlaaDoorW.PrintWords Go.ChangeShapes Go.WideShapes Go.ChangeAt
def ren : Ren := { f := fun _ => 0, t := fun n => if n = 5 then 5 else if n = 119 then 70 else if n = 138 then 72 else 73, g := fun n => if n = 3 then 0 else 1 }
theorem types : U8Types Tryd.prog ren := ⟨Tryd.underlying5, Tryd.underlying70, Tryd.underlying72, Tryd.underlying73⟩
theorem extra : U8Extra Tryd.prog ren := ⟨by kernel_rfl, by kernel_rfl, by kernel_rfl, by kernel_rfl, by kernel_rfl, by kernel_rfl, by kernel_rfl⟩
theorem tabs_of {W : World} (hL : laidMet Tryd.prog [("unicode/utf8.acceptRanges", Rows.laid_unicode_utf8_acceptRanges), ("unicode/utf8.first", Rows.laid_unicode_utf8_first)] W) : Tabs W :=
  utf8Tabs_of_readsT types extra (Pinned.utf8First_eq ▸ Lib.laidMet.reads hL (.tail _ (.head _))) (show VarReads Tryd.prog W "unicode/utf8.acceptRanges" acceptData from (show (Rows.laid_unicode_utf8_acceptRanges : DataW Unit) = acceptData by kernel_rfl) ▸ Lib.laidMet.reads hL (.head _))
theorem own : ownKnob Tryd.prog.godebug = none := by kernel_rfl
theorem laidOut : laidOutB Tryd.prog = true := by kernel_rfl
theorem C_of_cells {k : IntKind} {W : World} {x : Addr} {len : Nat} {zs : List Int} (hl : len ≤ zs.length) (hm : len ≤ 9223372036854775807) (hc : ∀ i, i < zs.length → W.cell? (x.add i) = some (.int k (zs.getD i 0))) : Kd.C (Kd.int k) W (some x) (zs.take len).length (zs.take len) :=
  ⟨rfl, by simp; omega, fun _ => ⟨x, rfl, fun j p hj => ⟨[.int k p], rfl, rfl, fun i u hu => by
    have hi : i = 0 := by
      cases i with
      | zero => rfl
      | succ n => simp at hu
    subst hi
    obtain rfl : Value.int k p = u := by simpa using hu
    have hlt0 : j < (zs.take len).length := (List.getElem?_eq_some_iff.1 hj).1
    have hlt : j < len ∧ j < zs.length := by
      rw [List.length_take] at hlt0
      omega
    have e := hc j hlt.2
    have e2 : zs.getD j 0 = p := by
      rw [List.getElem?_take, if_pos hlt.1] at hj
      simp [List.getD, hj]
    rw [e2] at e
    show W.cell? (x.add (j * 1 + 0)) = _
    rw [Nat.mul_one, Nat.add_zero]
    exact e⟩⟩⟩
/-- an argument that is a row of bytes -/
theorem open_bytes {H : Type} {enc : TypeId × Value → H} {W : World} {fuel : Nat} {a : Option Addr} {len cap : Nat} {x : DataW H × List MemPlace} (hf : DataW.trod enc Tryd.prog W 0 (fun _ => true) true fuel 22 [.slice a len cap] = some x) :
    ∃ bs : List Int, bs.length = len ∧ Kd.C (Kd.int .u8) W a bs.length bs ∧ (∀ b ∈ bs, 0 ≤ b ∧ b < 256) ∧ bs.length ≤ 9223372036854775807 := by
  rcases open_ints Tryd.underlying22 Tryd.underlying5 (by kernel_rfl) hf with ⟨hcs, _⟩ | ⟨ad, l, c, zs, hcs, _, hl, hm, hz, _, hcell, hwz⟩
  · simp at hcs
    obtain ⟨rfl, rfl, rfl⟩ := hcs
    exact ⟨[], rfl, ⟨rfl, by decide, fun h => absurd h (by decide)⟩, by simp, by decide⟩
  · simp at hcs
    obtain ⟨rfl, rfl, rfl⟩ := hcs
    have hm' : cap ≤ 9223372036854775807 := hm
    have hz' : zs.length = cap := by simpa using hz
    refine ⟨zs.take len, by simp; omega, C_of_cells (by omega) (by omega) hcell, fun b hb => ?_, by simp; omega⟩
    have hw := hwz b (List.mem_of_mem_take hb)
    simp [Lit.wf, IntKind.min, IntKind.max, IntKind.signed, IntKind.bits] at hw
    omega
end Go.Proofs.YtlopjkfhkfbhlaaDoor.Dec
