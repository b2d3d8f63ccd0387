/- gobolaw5.RunesCells returns true, and its arguments read behind the call as they did: for any two lists of ranges. Conditions: the row's own. -/
import Derived.Test.YtmmdnjooddhhoaaRows
import Derived.Test.YtmmdnjooddhhoaaOp
import Derived.Test.YtmmdnjooddhhoaaRnM
import Derived.WalkKit
import Derived.ProofKit
import Derived.OpenShut
import Derived.ShutString
import Derived.ChangeOld
import Derived.Below
import Derived.SizedLaws
import Derived.Carry
set_option linter.unusedVariables false
namespace Go.Proofs.Ytmmdnjooddhhoaa.Rn
open Go Go.RowKit Go.Proofs.YtmmdnjooddhhoaaW.PrintWords Go.ChangeShapes Go.WideShapes Go.ChangeAt
def rgGood (x : Rg) : Prop := rgOk [x] = true
theorem open_rg : Op.All Try.prog 35 k35 rgGood := fun _ n _ H enc W cs x hx => by
  obtain ⟨v, h1, h2⟩ := Op.struct_ (P := Try.prog) (n := n) (k := Kd.pair (Kd.int .i32) (Kd.int .i32)) (g := fun x : Rg => (x.f0, x.f1)) (fun x => ⟨x.1, x.2⟩) (fun _ => rfl) (Try.underlying35) (by kernel_rfl)
    (fun m _ => Op.flds_cons (off' := 1) rfl (by kernel_rfl) rfl (by intro g hg; simp at hg; subst hg; decide) (Op.int_ Try.underlying21) (Op.flds_one rfl (by kernel_rfl) (Op.int_ Try.underlying21))) H enc W cs x hx
  refine ⟨v, h1, ?_⟩
  obtain ⟨w0, w1⟩ := h2
  have b0 := bounds_i32 w0
  have b1 := bounds_i32 w1
  simp [rgGood, rgOk]
  omega
theorem rg_all {l : List Rg} (h : ∀ x, x ∈ l → rgGood x) : rgOk l = true := by
  unfold rgOk
  rw [List.all_eq_true]
  intro x hx
  have := h x hx
  unfold rgGood rgOk at this
  rw [List.all_eq_true] at this
  exact this x (List.mem_singleton.2 rfl)
theorem runesCells_own : ownKnob Try.prog.godebug = none := by kernel_rfl
set_option maxRecDepth 100000 in
theorem runesCells_lifted (os : Os) (started : os.Started) (H : Type) (enc : TypeId × Value → H) :
    ReturnsInHanded {} Try.checked os 7 .any (Rows.runesCellsSpec.pre6 enc Try.prog Try.f7 Rows.runesCellsRow.domain false) (Rows.runesCellsSpec.post enc Try.prog Try.f7 false true false false) := by
  refine returnsInHanded_of_change_sized (C := Try.checked) runesCells_own started (by kernel_rfl) Try.func7
    (ChangeSpec.witness6 (enc := enc) (C := Try.checked) false ⟨#[], #[.slice none 0 0, .slice none 0 0], []⟩ 8 (by kernel_rfl) (by kernel_rfl) (by kernel_rfl) (by kernel_rfl)) ?_
  intro W base args ds gs before hval0 hW hcnd hsz0 _
  have hval : ∀ (j : Nat) t v, Try.f7.params[j]? = some t → args[j]? = some v → Value.okWide Try.prog W .any base t v := hval0
  have hW' := hW
  obtain ⟨p, q, hA0, hV, rfl, hfz, hnd⟩ := hW
  have hA : DataW.TrodAll enc Try.prog W 0 (fun _ => true) true Try.f7.params.toList args.toList ds p := hA0
  rw [Try.params7] at hA hval
  obtain ⟨v0, vs0, d0, ds0, p0, q0, hargs, rfl, rfl, h0, r0⟩ := trodAll_cons hA
  obtain ⟨v1, vs1, d1, ds1, p1, q1, rfl, rfl, rfl, h1, r1⟩ := trodAll_cons r0
  obtain ⟨rfl, rfl, rfl⟩ := trodAll_nil r1
  obtain rfl : args = #[v0, v1] := by cases args; simp_all
  obtain ⟨rfl, rfl⟩ := trodVars_none hV
  have k0 := h0
  obtain ⟨A0, len0, c0, rfl⟩ := okWide_slice Try.underlying22 (hval 0 22 v0 rfl rfl)
  have lt0 : ∀ x ∈ p0, x.block < W.heap.size := by obtain ⟨m, hm⟩ := k0; exact DataW.trod_lt m _ _ _ hm
  obtain ⟨fuel0, hf0⟩ := h0
  obtain ⟨l0, rfl, hK0, hM0, hC0, hG0⟩ := Op.row_ (k := k35) Try.underlying22 (by kernel_rfl) open_rg hf0
  have k1 := h1
  obtain ⟨A1, len1, c1, rfl⟩ := okWide_slice Try.underlying22 (hval 1 22 v1 rfl rfl)
  have lt1 : ∀ x ∈ p1, x.block < W.heap.size := by obtain ⟨m, hm⟩ := k1; exact DataW.trod_lt m _ _ _ hm
  obtain ⟨fuel1, hf1⟩ := h1
  obtain ⟨l1, rfl, hK1, hM1, hC1, hG1⟩ := Op.row_ (k := k35) Try.underlying22 (by kernel_rfl) open_rg hf1
  clear hA0 hval0 hsz0
  refine ((cells_law l0 l1 (rg_all hG0) (rg_all hG1)).elim fun n hn => gobolaw5_RunesCells.calls n A0 c0 l0 A1 c1 l1 true W hC0 hK0 hC1 hK1 hn).mono fun e W' hE => ?_
  obtain ⟨he, bel⟩ := hE
  subst he
  exact ⟨_, rfl, _, _, _, [], _, [], hW', trodAll_mk1 (shut_bool Try.underlying4 _), (trodAll_cons_mk (Below.trod Op.laidOut (by kernel_rfl) (of_decide_eq_true (by kernel_rfl)) k0 bel lt0) (trodAll_cons_mk (Below.trod Op.laidOut (by kernel_rfl) (of_decide_eq_true (by kernel_rfl)) k1 bel lt1) trodAll_mk0)), rfl, bel.frame _, fun h => by cases h⟩
theorem runesCells_over : Rows.runesCellsRow.holds Try.pinned (OpenSpec.ofChange Rows.runesCellsSpec) :=
  OpenClaim.holds_of_wide 7 Try.f7 rfl rfl rfl rfl rfl rfl rfl ⟨rfl, rfl, rfl, rfl, rfl⟩ rfl rfl rfl rfl rfl (by kernel_rfl) Try.func7 (by kernel_rfl)
    (of_decide_eq_true (by kernel_rfl)) (by unfold Func.isWrapper; first | (rw [if_pos (by decide +kernel)]; kernel_rfl) | (rw [if_neg (by decide +kernel)]; exact ⟨rfl, rfl⟩))
    (fun os started H enc _ => runesCells_lifted os started H enc)
theorem runesCells_holds : Rows.RunesCellsSaid := runesCells_over
#print axioms runesCells_holds
end Go.Proofs.Ytmmdnjooddhhoaa.Rn
