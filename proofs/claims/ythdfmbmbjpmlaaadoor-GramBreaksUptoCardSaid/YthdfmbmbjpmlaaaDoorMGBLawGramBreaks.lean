/- gobolaw11.GramBreaks, where what it reads is of bulk at most 1048576, returns true, and its arguments read behind the call as they did. Conditions: the row's own (the bulk; what it lists of gobo/gram, tied to the program's text by the card). -/
import Derived.Test.YthdfmbmbjpmlaaaDoorMGBe
import Derived.Test.YthdfmbmbjpmlaaaDoorMGBd
import Derived.Test.YthdfmbmbjpmlaaaDoorCards
import Derived.Test.YthdfmbmbjpmlaaaDoorTie
import Derived.WalkKit
import Derived.ProofKit
import Derived.OpenShut
import Derived.Deep.DeepHandedRow
import Derived.Lib.LaidTab
set_option linter.unusedVariables false
namespace Go.Proofs.YthdfmbmbjpmlaaaDoor.Rn
open Go Go.RowKit Go.Shelf Go.Lib Go.Proofs.YthdfmbmbjpmlaaaDoorW.PrintWords Go.ChangeShapes Go.WideShapes Go.ChangeAt
set_option maxRecDepth 100000
theorem gramBreaks_reads (os : Os) {H : Type} (enc : TypeId × Value → H) : ∃ places, DataW.whole enc Tryd.prog ((World.laidAll Tryd.prog os Rows.gramBreaksUptoRow.laid).forCall (fun _ _ => 0) ⟨#[], #[.slice none 0 0, .int .i64 0], []⟩).memory Tryd.f4.params.toList Rows.gramBreaksSpec.vars false (#[.slice none 0 0, .int .i64 0] : Array Value).toList 8 = some ([.nil, .lit (.int .i64 0)], [], places) := ⟨[], by kernel_rfl⟩
theorem gramBreaks_lifted (os : Os) (started : os.Started) (H : Type) (enc : TypeId × Value → H) (F : Stop.Interp) :
 ReturnsInHanded {} Tryd.checked os 4 .any ((Rows.OpenSpec.upto Rows.gramBreaksSpec).preRow enc Tryd.prog Tryd.f4 Rows.gramBreaksUptoRow.domain false Rows.gramBreaksUptoRow.laid) (((Rows.OpenSpec.upto Rows.gramBreaksSpec).at F).post enc Tryd.prog Tryd.f4 false true false false) := by
 obtain ⟨places, hx⟩ := gramBreaks_reads os enc
 refine returnsInHanded_of_row (C := Tryd.checked) (s := (Rows.OpenSpec.upto Rows.gramBreaksSpec)) own started (by kernel_rfl) Tryd.func4
  ⟨World.laidAll Tryd.prog os Rows.gramBreaksUptoRow.laid, fun _ _ => 0, ⟨#[], #[.slice none 0 0, .int .i64 0], []⟩, World.laidAll_os _ _ _, World.shaped_of_ZipB (by kernel_rfl) (by kernel_rfl), rfl, (Input.okWide_of_okWideB (by kernel_rfl)).2,
   OpenSpec.preRow_of_cond 8 hx (by kernel_rfl) (fun k hk => by cases hk; kernel_rfl) (by kernel_rfl) (by rw [MakeChecks.laidMetH_plain _ _ _ (by kernel_rfl)]; exact laidMet_laidAll _ (by kernel_rfl) (by kernel_rfl)), by
   simp only [Assume.holds]
   exact ⟨by simp, by simp, fun _ => Modest.zero, by simp, by simp⟩⟩ ?_
 intro W base args ds gs before hval0 hW _ hcond _ hL _ _
 have hval : ∀ (j : Nat) t v, Tryd.f4.params[j]? = some t → args[j]? = some v → Value.okWide Tryd.prog W .any base t v := hval0
 have hW1 := hW
 obtain ⟨p, q, hA0, hV, rfl, _, _⟩ := hW
 have hA : DataW.TrodAll enc Tryd.prog W 0 (fun _ => true) true Tryd.f4.params.toList args.toList ds p := hA0
 rw [Tryd.params4] at hA hval
 obtain ⟨v0, vs0, d0, ds0, p0, q0, hargs, rfl, rfl, h0, r0⟩ := trodAll_cons hA
 obtain ⟨v1, vs1, d1, ds1, p1, q1, rfl, rfl, rfl, h1, r1⟩ := trodAll_cons r0
 obtain ⟨rfl, rfl, rfl⟩ := trodAll_nil r1
 obtain rfl : args = #[v0, v1] := by cases args; simp_all
 obtain ⟨rfl, rfl⟩ := trodVars_none hV
 have hbk := Op.bound (hcond _ rfl)
 have k0 := h0
 obtain ⟨A0, len0, c0, rfl⟩ := okWide_slice Tryd.underlying22 (hval 0 22 v0 rfl rfl)
 have lt0 : ∀ x ∈ p0, x.block < W.heap.size := by obtain ⟨m, hm⟩ := k0; exact DataW.trod_lt m _ _ _ hm
 obtain ⟨fuel0, hf0⟩ := h0
 obtain ⟨l0, rfl, hK0, hC0, hB0⟩ := Op.rows_int Tryd.underlying22 (by kernel_rfl) Tryd.underlying57 Tryd.underlying3 (by kernel_rfl) hf0
 have hsm0 : ∀ l, l ∈ l0 → l.length ≤ 1048576 := fun l hl => Nat.le_trans (hB0 l hl) (Nat.le_trans (Op.part_le (by simp)) hbk)
 have k1 := h1
 obtain ⟨x1, rfl, rfl, rfl, wx1⟩ := open_int Tryd.underlying3 (hval 1 3 v1 rfl rfl) h1
 rw [MakeChecks.laidMetH_plain _ _ _ (by kernel_rfl)] at hL
 have hT := tabs_of hL
 clear hA0 hval0 hbk hcond
 refine (breaks_any l0 A0 c0 (fun q => q < W.heap.size) W (fun _ h => h) (Op.F_all hC0) hsm0 x1 hT).mono fun e W2 hE => ?_
 obtain ⟨he, bel⟩ := hE
 subst he
 exact ⟨_, rfl, _, _, _, [], _, [], hW1, trodAll_mk1 (shut_bool Tryd.underlying4 _), (trodAll_cons_mk (Below.trod laidOut (by kernel_rfl) (of_decide_eq_true (by kernel_rfl)) k0 bel lt0) (trodAll_cons_mk (shut_int Tryd.underlying3 wx1) trodAll_mk0)), rfl, bel.frame _, fun h => by cases h⟩
theorem gramBreaks_over : Rows.gramBreaksUptoRow.holds Tryd.pinned (Rows.OpenSpec.upto Rows.gramBreaksSpec) :=
 OpenClaim.holds_of_cond 4 Tryd.f4 rfl rfl rfl rfl rfl rfl rfl ⟨rfl, rfl, rfl, rfl, rfl⟩ rfl rfl rfl rfl rfl (by kernel_rfl) Tryd.func4 (by kernel_rfl)
  (of_decide_eq_true (by kernel_rfl)) (by unfold Func.isWrapper; first | (rw [if_pos (by decide +kernel)]; kernel_rfl) | (rw [if_neg (by decide +kernel)]; exact ⟨rfl, rfl⟩))
  (fun os started H enc _ F => by rw [OpenClaim.pre_eq_preRow]; exact gramBreaks_lifted os started H enc F)
theorem gramBreaks_plain (f : FuncId) (fn : Func) (hf : Tryd.pinned.checked.prog.funcNamed "gobo/gobolaw11.GramBreaks" = some f) (hfn : Tryd.pinned.checked.prog.funcs[f]? = some fn) :
 true = Tryd.pinned.checked.prog.looks [] ∧ ∀ (j : Nat) t, fn.params[j]? = some t → Tryd.pinned.checked.prog.wantsStandIn t = false := by
 obtain rfl : f = 4 := Option.some.inj ((show Tryd.prog.funcNamed "gobo/gobolaw11.GramBreaks" = some 4 by kernel_rfl).symm.trans hf) |>.symm
 obtain rfl : fn = Tryd.f4 := (Option.some.inj (Tryd.func4.symm.trans hfn)).symm
 refine ⟨by kernel_rfl, fun j t ht => ?_⟩
 rw [Tryd.params4] at ht
 have hm : t ∈ [22, 3] := by simpa using Array.mem_of_getElem? ht
 have hall : ([22, 3].all fun u => !Tryd.prog.wantsStandIn u) = true := by kernel_rfl
 exact (show Tryd.prog.wantsStandIn t = false by simpa using List.all_eq_true.1 hall t hm)
theorem gramBreaks_upto_card : Rows.GramBreaksUptoCardSaid :=
 Claim7.holds_tied_plain_at .later [] _ _ _ _ gramBreaks_over (fun _ h => by cases h) (by kernel_rfl) (fun _ h => by cases h) gramBreaksUpto_row_tie rfl ⟨rfl, rfl⟩ (by kernel_rfl) rfl gramBreaks_plain (by kernel_rfl)
end Go.Proofs.YthdfmbmbjpmlaaaDoor.Rn
