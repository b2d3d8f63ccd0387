/- gobolaw11.GramAsks returns true, and its arguments read behind the call as they did: for any two grammars, any name. Conditions: the row's own (what it lists of gobo/gram, tied to the program's text by the card). -/
import Derived.Test.YthdfmbmbjpmlaaaGreatDoorMGAf
import Derived.Test.YthdfmbmbjpmlaaaGreatDoorCards
import Derived.Test.YthdfmbmbjpmlaaaGreatDoorTie
import Derived.WalkKit
import Derived.ProofKit
import Derived.OpenShut
import Derived.ChangeMaps5
set_option linter.unusedVariables false
namespace Go.Proofs.YthdfmbmbjpmlaaaGreatDoor.Rn
open Go Go.RowKit Go.Shelf Go.Lib Go.Proofs.YthdfmbmbjpmlaaaGreatDoorW.PrintWords Go.ChangeShapes Go.WideShapes Go.ChangeAt
set_option maxRecDepth 100000
theorem len64 {s : ByteArray} (h : s.size ≤ maxLen) : s.size ≤ 9223372036854775807 := by
 unfold maxLen at h
 omega
theorem gramAsks_lifted (os : Os) (started : os.Started) (H : Type) (enc : TypeId × Value → H) :
 ReturnsInHanded {} Tryz.checked os 3 .any (fun w args => (Rows.gramAsksSpec.pre enc Tryz.prog Tryz.f3 [] false w args ∧ laidMetH Tryz.prog Rows.gramAsksRow.laid w) ∧ sizedMet enc Tryz.prog Tryz.f3 (OpenSpec.ofChange Rows.gramAsksSpec) false w args)
  (Rows.gramAsksSpec.post enc Tryz.prog Tryz.f3 false true false false) := by
 refine returnsInHanded_of_change_and (C := Tryz.checked) (X := fun w _ => laidMetH Tryz.prog Rows.gramAsksRow.laid w) (fun _ _ _ hh h => h.of_heap hh) own started (by kernel_rfl) Tryz.func3
  (ChangeSpec.witness_shaped (enc := enc) (C := Tryz.checked) (os := os) (X := fun w _ => laidMetH Tryz.prog Rows.gramAsksRow.laid w) false (World.laidAll Tryz.prog os Rows.gramAsksRow.laid) #[.agg #[.slice none 0 0, .slice none 0 0], .agg #[.slice none 0 0, .slice none 0 0], .string ⟨#[]⟩] 8 (World.laidAll_os _ _ _)
   (World.shaped_of_ZipB (by kernel_rfl) (by kernel_rfl)) (by kernel_rfl) (by kernel_rfl) (by kernel_rfl)
   (by rw [MakeChecks.laidMetH_plain _ _ _ (by kernel_rfl)]; exact laidMet_laidAll _ (by kernel_rfl) (by kernel_rfl))) ?_
 intro W base args ds gs before hval0 hW _ hsz0 hL _
 have hval : ∀ (j : Nat) t v, Tryz.f3.params[j]? = some t → args[j]? = some v → Value.okWide Tryz.prog W .any base t v := hval0
 have hW1 := hW
 obtain ⟨p, q, hA0, hV, rfl, _, _⟩ := hW
 have hA : DataW.TrodAll enc Tryz.prog W 0 (fun _ => true) true Tryz.f3.params.toList args.toList ds p := hA0
 rw [Tryz.params3] at hA hval
 obtain ⟨v0, vs0, d0, ds0, p0, q0, hargs, rfl, rfl, h0, r0⟩ := trodAll_cons hA
 obtain ⟨v1, vs1, d1, ds1, p1, q1, rfl, rfl, rfl, h1, r1⟩ := trodAll_cons r0
 obtain ⟨v2, vs2, d2, ds2, p2, q2, rfl, rfl, rfl, h2, r2⟩ := trodAll_cons r1
 obtain ⟨rfl, rfl, rfl⟩ := trodAll_nil r2
 obtain rfl : args = #[v0, v1, v2] := by cases args; simp_all
 obtain ⟨rfl, rfl⟩ := trodVars_none hV
 have k0 := h0
 obtain ⟨cs0, rfl, _⟩ := okWide_struct Tryz.underlying25 (hval 0 25 v0 rfl rfl)
 have lt0 : ∀ x ∈ p0, x.block < W.heap.size := by obtain ⟨m, hm⟩ := k0; exact DataW.trod_lt m _ _ _ hm
 obtain ⟨fuel0, hf0⟩ := h0
 obtain ⟨T0, R0, A0, B0, c0, e0, hcs0, hT0, hR0, hG0⟩ := open_gram hf0
 obtain rfl := (Array.toList_inj.1 hcs0 : cs0 = #[_, _])
 have k1 := h1
 obtain ⟨cs1, rfl, _⟩ := okWide_struct Tryz.underlying25 (hval 1 25 v1 rfl rfl)
 have lt1 : ∀ x ∈ p1, x.block < W.heap.size := by obtain ⟨m, hm⟩ := k1; exact DataW.trod_lt m _ _ _ hm
 obtain ⟨fuel1, hf1⟩ := h1
 obtain ⟨T1, R1, A1, B1, c1, e1, hcs1, hT1, hR1, hG1⟩ := open_gram hf1
 obtain rfl := (Array.toList_inj.1 hcs1 : cs1 = #[_, _])
 have k2 := h2
 obtain ⟨x2, rfl, rfl, rfl, wx2⟩ := Go.ChangeMaps.open_string Tryz.underlying9 (hval 2 9 v2 rfl rfl) h2
 rw [MakeChecks.laidMetH_plain _ _ _ (by kernel_rfl)] at hL
 have hT := tabs_of hL
 clear hA0 hval0 hsz0
 refine (asks_any T0 T1 R0 R1 A0 B0 A1 B1 c0 e0 c1 e1 x2 W (fun t ht => ⟨len64 (hG0 t ht).1, (hG0 t ht).2⟩) (len64 wx2) hT0 hR0 hT1 hR1 hT).mono fun e W2 hE => ?_
 obtain ⟨he, bel⟩ := hE
 subst he
 exact ⟨_, rfl, _, _, _, [], _, [], hW1, trodAll_mk1 (shut_bool Tryz.underlying4 _), (trodAll_cons_mk (Below.trod laidOut (by kernel_rfl) (of_decide_eq_true (by kernel_rfl)) k0 bel lt0) (trodAll_cons_mk (Below.trod laidOut (by kernel_rfl) (of_decide_eq_true (by kernel_rfl)) k1 bel lt1) (trodAll_cons_mk (Go.ChangeMaps.shut_string Tryz.underlying9 wx2) trodAll_mk0))), rfl, bel.frame _, fun h => by cases h⟩
theorem gramAsks_over : Rows.gramAsksRow.holds Tryz.pinned (OpenSpec.ofChange Rows.gramAsksSpec) :=
 OpenClaim.holds_of_wide 3 Tryz.f3 rfl rfl rfl rfl rfl rfl rfl ⟨rfl, rfl, rfl, rfl, rfl⟩ rfl rfl rfl rfl rfl (by kernel_rfl) Tryz.func3 (by kernel_rfl)
  (of_decide_eq_true (by kernel_rfl)) (by unfold Func.isWrapper; first | (rw [if_pos (by decide +kernel)]; kernel_rfl) | (rw [if_neg (by decide +kernel)]; exact ⟨rfl, rfl⟩))
  (fun os started H enc _ => gramAsks_lifted os started H enc)
theorem gramAsks_card : Rows.GramAsksCardSaid :=
 Claim7.holds_tied_plain_at .later [] [.widerDeep] true Rows.gramAsksCard.stood.harness true gramAsks_over (fun _ h => by cases h) (by kernel_rfl) (fun _ h => by cases h) gramAsks_row_tie rfl ⟨rfl, rfl⟩ (by kernel_rfl) rfl
  (fun f fn hf hfn => by
   obtain rfl : f = 3 := Option.some.inj ((show Tryz.prog.funcNamed "gobo/gobolaw11.GramAsks" = some 3 by kernel_rfl).symm.trans hf) |>.symm
   obtain rfl : fn = Tryz.f3 := (Option.some.inj (Tryz.func3.symm.trans hfn)).symm
   exact ⟨by kernel_rfl, fun j t ht => by
    rw [Tryz.params3] at ht
    have hm : t ∈ [25, 25, 9] := by simpa using Array.mem_of_getElem? ht
    have hall : ([25, 25, 9].all fun u => !Tryz.prog.wantsStandIn u) = true := by kernel_rfl
    exact (show Tryz.prog.wantsStandIn t = false by simpa using List.all_eq_true.1 hall t hm)⟩)
  (by kernel_rfl)
end Go.Proofs.YthdfmbmbjpmlaaaGreatDoor.Rn
