/- gobolaw11.GramPats, where what it reads is of bulk at most 1048576, returns true, and its arguments read behind the call as they did. Conditions: the row's own (the bulk; what it lists of gobo/gram, tied to the program's text by the card). -/
import Derived.Test.YthdfmbmbjpmlaaaDoorMGPf
import Derived.Test.YthdfmbmbjpmlaaaDoorMGPd
import Derived.Test.YthdfmbmbjpmlaaaDoorMGPg
import Derived.Test.YthdfmbmbjpmlaaaDoorCards
import Derived.Test.YthdfmbmbjpmlaaaDoorTie
import Derived.WalkKit
import Derived.ProofKit
import Derived.OpenShut
import Derived.Deep.DeepHandedRow
import Derived.Lib.LaidTab
set_option linter.unusedVariables false
namespace Go.Proofs.YthdfmbmbjpmlaaaDoor.Rn
open Go Go.RowKit Go.Shelf Go.Lib Go.Proofs.YthdfmbmbjpmlaaaDoorW.PrintWords Go.ChangeShapes Go.WideShapes Go.ChangeAt
set_option maxRecDepth 100000
theorem gramPats_reads (os : Os) {H : Type} (enc : TypeId × Value → H) : ∃ places, DataW.whole enc Tryd.prog ((World.laidAll Tryd.prog os Rows.gramPatsUptoRow.laid).forCall (fun _ _ => 0) ⟨#[], #[.slice none 0 0, .int .i64 0, .int .i64 0], []⟩).memory Tryd.f3.params.toList Rows.gramPatsSpec.vars false (#[.slice none 0 0, .int .i64 0, .int .i64 0] : Array Value).toList 8 = some ([.nil, .lit (.int .i64 0), .lit (.int .i64 0)], [], places) := ⟨[], by kernel_rfl⟩
theorem gramPats_lifted (os : Os) (started : os.Started) (H : Type) (enc : TypeId × Value → H) (F : Stop.Interp) :
 ReturnsInHanded {} Tryd.checked os 3 .any ((Rows.OpenSpec.upto Rows.gramPatsSpec).preRow enc Tryd.prog Tryd.f3 Rows.gramPatsUptoRow.domain false Rows.gramPatsUptoRow.laid) (((Rows.OpenSpec.upto Rows.gramPatsSpec).at F).post enc Tryd.prog Tryd.f3 false true false false) := by
 obtain ⟨places, hx⟩ := gramPats_reads os enc
 refine returnsInHanded_of_row (C := Tryd.checked) (s := (Rows.OpenSpec.upto Rows.gramPatsSpec)) own started (by kernel_rfl) Tryd.func3
  ⟨World.laidAll Tryd.prog os Rows.gramPatsUptoRow.laid, fun _ _ => 0, ⟨#[], #[.slice none 0 0, .int .i64 0, .int .i64 0], []⟩, World.laidAll_os _ _ _, World.shaped_of_ZipB (by kernel_rfl) (by kernel_rfl), rfl, (Input.okWide_of_okWideB (by kernel_rfl)).2,
   OpenSpec.preRow_of_cond 8 hx (by kernel_rfl) (fun k hk => by cases hk; kernel_rfl) (by kernel_rfl) (by rw [MakeChecks.laidMetH_plain _ _ _ (by kernel_rfl)]; exact laidMet_laidAll _ (by kernel_rfl) (by kernel_rfl)), by
   simp only [Assume.holds]
   exact ⟨by simp, by simp, fun _ => Modest.zero, by simp, by simp⟩⟩ ?_
 intro W base args ds gs before hval0 hW _ hcond _ hL _ _
 have hval : ∀ (j : Nat) t v, Tryd.f3.params[j]? = some t → args[j]? = some v → Value.okWide Tryd.prog W .any base t v := hval0
 have hW1 := hW
 obtain ⟨p, q, hA0, hV, rfl, _, _⟩ := hW
 have hA : DataW.TrodAll enc Tryd.prog W 0 (fun _ => true) true Tryd.f3.params.toList args.toList ds p := hA0
 rw [Tryd.params3] at hA hval
 obtain ⟨v0, vs0, d0, ds0, p0, q0, hargs, rfl, rfl, h0, r0⟩ := trodAll_cons hA
 obtain ⟨v1, vs1, d1, ds1, p1, q1, rfl, rfl, rfl, h1, r1⟩ := trodAll_cons r0
 obtain ⟨v2, vs2, d2, ds2, p2, q2, rfl, rfl, rfl, h2, r2⟩ := trodAll_cons r1
 obtain ⟨rfl, rfl, rfl⟩ := trodAll_nil r2
 obtain rfl : args = #[v0, v1, v2] := by cases args; simp_all
 obtain ⟨rfl, rfl⟩ := trodVars_none hV
 have hbk := Op.bound (hcond _ rfl)
 have k0 := h0
 obtain ⟨A0, len0, c0, rfl⟩ := okWide_slice Tryd.underlying22 (hval 0 22 v0 rfl rfl)
 have lt0 : ∀ x ∈ p0, x.block < W.heap.size := by obtain ⟨m, hm⟩ := k0; exact DataW.trod_lt m _ _ _ hm
 obtain ⟨fuel0, hf0⟩ := h0
 obtain ⟨l0, rfl, hK0, hC0, hB0⟩ := Op.rows_int Tryd.underlying22 (by kernel_rfl) Tryd.underlying57 Tryd.underlying3 (by kernel_rfl) hf0
 have hsm0 : ∀ l, l ∈ l0 → l.length ≤ 1048576 := fun l hl => Nat.le_trans (hB0 l hl) (Nat.le_trans (Op.part_le (by simp)) hbk)
 have k1 := h1
 obtain ⟨x1, rfl, rfl, rfl, wx1⟩ := open_int Tryd.underlying3 (hval 1 3 v1 rfl rfl) h1
 have k2 := h2
 obtain ⟨x2, rfl, rfl, rfl, wx2⟩ := open_int Tryd.underlying3 (hval 2 3 v2 rfl rfl) h2
 rw [MakeChecks.laidMetH_plain _ _ _ (by kernel_rfl)] at hL
 have hT := tabs_of hL
 clear hA0 hval0 hbk hcond
 refine (pats_any l0 A0 c0 (fun q => q < W.heap.size) W (fun _ h => h) (Op.F_all hC0) hsm0 x1 x2 hT).mono fun e W2 hE => ?_
 obtain ⟨he, bel⟩ := hE
 subst he
 exact ⟨_, rfl, _, _, _, [], _, [], hW1, trodAll_mk1 (shut_bool Tryd.underlying4 _), (trodAll_cons_mk (Below.trod laidOut (by kernel_rfl) (of_decide_eq_true (by kernel_rfl)) k0 bel lt0) (trodAll_cons_mk (shut_int Tryd.underlying3 wx1) (trodAll_cons_mk (shut_int Tryd.underlying3 wx2) trodAll_mk0))), rfl, bel.frame _, fun h => by cases h⟩
theorem gramPats_over : Rows.gramPatsUptoRow.holds Tryd.pinned (Rows.OpenSpec.upto Rows.gramPatsSpec) :=
 OpenClaim.holds_of_cond 3 Tryd.f3 rfl rfl rfl rfl rfl rfl rfl ⟨rfl, rfl, rfl, rfl, rfl⟩ rfl rfl rfl rfl rfl (by kernel_rfl) Tryd.func3 (by kernel_rfl)
  (of_decide_eq_true (by kernel_rfl)) (by unfold Func.isWrapper; first | (rw [if_pos (by decide +kernel)]; kernel_rfl) | (rw [if_neg (by decide +kernel)]; exact ⟨rfl, rfl⟩))
  (fun os started H enc _ F => by rw [OpenClaim.pre_eq_preRow]; exact gramPats_lifted os started H enc F)
theorem gramPats_plain (f : FuncId) (fn : Func) (hf : Tryd.pinned.checked.prog.funcNamed "gobo/gobolaw11.GramPats" = some f) (hfn : Tryd.pinned.checked.prog.funcs[f]? = some fn) :
 true = Tryd.pinned.checked.prog.looks [] ∧ ∀ (j : Nat) t, fn.params[j]? = some t → Tryd.pinned.checked.prog.wantsStandIn t = false := by
 obtain rfl : f = 3 := Option.some.inj ((show Tryd.prog.funcNamed "gobo/gobolaw11.GramPats" = some 3 by kernel_rfl).symm.trans hf) |>.symm
 obtain rfl : fn = Tryd.f3 := (Option.some.inj (Tryd.func3.symm.trans hfn)).symm
 refine ⟨by kernel_rfl, fun j t ht => ?_⟩
 rw [Tryd.params3] at ht
 have hm : t ∈ [22, 3, 3] := by simpa using Array.mem_of_getElem? ht
 have hall : ([22, 3, 3].all fun u => !Tryd.prog.wantsStandIn u) = true := by kernel_rfl
 exact (show Tryd.prog.wantsStandIn t = false by simpa using List.all_eq_true.1 hall t hm)
theorem gramPats_upto_card : Rows.GramPatsUptoCardSaid :=
 Claim7.holds_tied_plain_at .later [] _ _ _ _ gramPats_over (fun _ h => by cases h) (by kernel_rfl) (fun _ h => by cases h) gramPatsUpto_row_tie rfl ⟨rfl, rfl⟩ (by kernel_rfl) rfl gramPats_plain (by kernel_rfl)
end Go.Proofs.YthdfmbmbjpmlaaaDoor.Rn
