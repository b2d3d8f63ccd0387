/- gobolaw5.RunesCuts returns true, and its arguments read behind the call as they did: for any lists of ranges. Conditions: the row's own. -/
import Derived.Test.YtmmdnjooddhhoaaRows
import Derived.Test.YtmmdnjooddhhoaaOp
import Derived.Test.YtmmdnjooddhhoaaRnJ
import Derived.WalkKit
import Derived.ProofKit
import Derived.OpenShut
import Derived.ShutString
import Derived.ChangeOld
import Derived.Below
import Derived.SizedLaws
import Derived.Carry
set_option linter.unusedVariables false
namespace Go.Proofs.Ytmmdnjooddhhoaa.Rn
open Go Go.RowKit Go.Proofs.YtmmdnjooddhhoaaW.PrintWords Go.ChangeShapes Go.WideShapes Go.ChangeAt
def rgGood (x : Rg) : Prop := rgOk [x] = true
theorem open_rg : Op.All Try.prog 35 k35 rgGood := fun _ n _ H enc W cs x hx => by
  obtain ⟨v, h1, h2⟩ := Op.struct_ (P := Try.prog) (n := n) (k := Kd.pair (Kd.int .i32) (Kd.int .i32)) (g := fun x : Rg => (x.f0, x.f1)) (fun x => ⟨x.1, x.2⟩) (fun _ => rfl) (Try.underlying35) (by kernel_rfl)
    (fun m _ => Op.flds_cons (off' := 1) rfl (by kernel_rfl) rfl (by intro g hg; simp at hg; subst hg; decide) (Op.int_ Try.underlying21) (Op.flds_one rfl (by kernel_rfl) (Op.int_ Try.underlying21))) H enc W cs x hx
  refine ⟨v, h1, ?_⟩
  obtain ⟨w0, w1⟩ := h2
  have b0 := bounds_i32 w0
  have b1 := bounds_i32 w1
  simp [rgGood, rgOk]
  omega
theorem rg_all {l : List Rg} (h : ∀ x, x ∈ l → rgGood x) : rgOk l = true := by
  unfold rgOk
  rw [List.all_eq_true]
  intro x hx
  have := h x hx
  unfold rgGood rgOk at this
  rw [List.all_eq_true] at this
  exact this x (List.mem_singleton.2 rfl)
theorem open_rgs : Op.All Try.prog 22 (Kd.slice 35 k35) (fun l => ∀ x, x ∈ l → rgGood x) := fun _ n _ => Op.slice_ _ Try.underlying22 (by kernel_rfl) (open_rg n)
theorem runesCuts_own : ownKnob Try.prog.godebug = none := by kernel_rfl
set_option maxRecDepth 100000 in
theorem runesCuts_lifted (os : Os) (started : os.Started) (H : Type) (enc : TypeId × Value → H) :
    ReturnsInHanded {} Try.checked os 4 .any (Rows.runesCutsSpec.pre6 enc Try.prog Try.f4 Rows.runesCutsRow.domain false) (Rows.runesCutsSpec.post enc Try.prog Try.f4 false true false false) := by
  refine returnsInHanded_of_change_sized (C := Try.checked) runesCuts_own started (by kernel_rfl) Try.func4
    (ChangeSpec.witness6 (enc := enc) (C := Try.checked) false ⟨#[], #[.slice none 0 0], []⟩ 8 (by kernel_rfl) (by kernel_rfl) (by kernel_rfl) (by kernel_rfl)) ?_
  intro W base args ds gs before hval0 hW hcnd hsz0 _
  have hval : ∀ (j : Nat) t v, Try.f4.params[j]? = some t → args[j]? = some v → Value.okWide Try.prog W .any base t v := hval0
  have hW' := hW
  obtain ⟨p, q, hA0, hV, rfl, hfz, hnd⟩ := hW
  have hA : DataW.TrodAll enc Try.prog W 0 (fun _ => true) true Try.f4.params.toList args.toList ds p := hA0
  rw [Try.params4] at hA hval
  obtain ⟨v0, vs0, d0, ds0, p0, q0, hargs, rfl, rfl, h0, r0⟩ := trodAll_cons hA
  obtain ⟨rfl, rfl, rfl⟩ := trodAll_nil r0
  obtain rfl : args = #[v0] := by cases args; simp_all
  obtain ⟨rfl, rfl⟩ := trodVars_none hV
  have k0 := h0
  obtain ⟨A0, len0, c0, rfl⟩ := okWide_slice Try.underlying31 (hval 0 31 v0 rfl rfl)
  have lt0 : ∀ x ∈ p0, x.block < W.heap.size := by obtain ⟨m, hm⟩ := k0; exact DataW.trod_lt m _ _ _ hm
  obtain ⟨fuel0, hf0⟩ := h0
  obtain ⟨l0, rfl, hK0, hM0, hC0, hG0⟩ := Op.row_ (k := Kd.slice 35 k35) Try.underlying31 (by kernel_rfl) open_rgs hf0
  clear hA0 hval0 hsz0
  refine ((cuts_law l0 (fun l hl => rg_all (hG0 l hl))).elim fun n hn => gobolaw5_RunesCuts.calls n A0 c0 l0 true W hC0 hK0 hn).mono fun e W' hE => ?_
  obtain ⟨he, bel⟩ := hE
  subst he
  exact ⟨_, rfl, _, _, _, [], _, [], hW', trodAll_mk1 (shut_bool Try.underlying4 _), (trodAll_cons_mk (Below.trod Op.laidOut (by kernel_rfl) (of_decide_eq_true (by kernel_rfl)) k0 bel lt0) trodAll_mk0), rfl, bel.frame _, fun h => by cases h⟩
theorem runesCuts_over : Rows.runesCutsRow.holds Try.pinned (OpenSpec.ofChange Rows.runesCutsSpec) :=
  OpenClaim.holds_of_wide 4 Try.f4 rfl rfl rfl rfl rfl rfl rfl ⟨rfl, rfl, rfl, rfl, rfl⟩ rfl rfl rfl rfl rfl (by kernel_rfl) Try.func4 (by kernel_rfl)
    (of_decide_eq_true (by kernel_rfl)) (by unfold Func.isWrapper; first | (rw [if_pos (by decide +kernel)]; kernel_rfl) | (rw [if_neg (by decide +kernel)]; exact ⟨rfl, rfl⟩))
    (fun os started H enc _ => runesCuts_lifted os started H enc)
theorem runesCuts_holds : Rows.RunesCutsSaid := runesCuts_over
#print axioms runesCuts_holds
end Go.Proofs.Ytmmdnjooddhhoaa.Rn
