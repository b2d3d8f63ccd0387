/- gobolaw3.DecodeParts returns true, and its argument reads behind the call as it did: for any bytes. Conditions: the row's own (what it lists of unicode/utf8, tied to the program's text by the card). -/
import Derived.Test.YtlopjkfhkfbhlaaDoorDcW
import Derived.Test.YtlopjkfhkfbhlaaDoorCards
import Derived.Test.YtlopjkfhkfbhlaaDoorTie
set_option linter.unusedVariables false
namespace Go.Proofs.YtlopjkfhkfbhlaaDoor.Dec
open Go Go.RowKit Go.Shelf Go.Lib Go.Proofs.YtlopjkfhkfbhlaaDoorW.PrintWords Go.ChangeShapes Go.WideShapes Go.ChangeAt
set_option maxRecDepth 100000
/-- an argument that is a row of bytes, with its capacity -/
theorem open_bytes_cap {H : Type} {enc : TypeId × Value → H} {W : World} {fuel : Nat} {a : Option Addr} {len cap : Nat} {x : DataW H × List MemPlace} (hf : DataW.trod enc Tryd.prog W 0 (fun _ => true) true fuel 22 [.slice a len cap] = some x) :
    ∃ bs : List Int, bs.length = len ∧ Kd.C (Kd.int .u8) W a bs.length bs ∧ (∀ b ∈ bs, 0 ≤ b ∧ b < 256) ∧ bs.length ≤ 9223372036854775807 ∧ bs.length ≤ cap := by
  rcases open_ints Tryd.underlying22 Tryd.underlying5 (by kernel_rfl) hf with ⟨hcs, _⟩ | ⟨ad, l, c, zs, hcs, _, hl, hm, hz, _, hcell, hwz⟩
  · simp at hcs
    obtain ⟨rfl, rfl, rfl⟩ := hcs
    exact ⟨[], rfl, ⟨rfl, by decide, fun h => absurd h (by decide)⟩, by simp, by decide, by decide⟩
  · simp at hcs
    obtain ⟨rfl, rfl, rfl⟩ := hcs
    have hm' : cap ≤ 9223372036854775807 := hm
    have hz' : zs.length = cap := by simpa using hz
    refine ⟨zs.take len, by simp; omega, C_of_cells (by omega) (by omega) hcell, fun b hb => ?_, by simp; omega, by simp; omega⟩
    have hw := hwz b (List.mem_of_mem_take hb)
    simp [Lit.wf, IntKind.min, IntKind.max, IntKind.signed, IntKind.bits] at hw
    omega
theorem decodeParts_lifted (os : Os) (started : os.Started) (H : Type) (enc : TypeId × Value → H) :
    ReturnsInHanded {} Tryd.checked os 6 .any (fun w args => (Rows.decodePartsSpec.pre enc Tryd.prog Tryd.f6 [] false w args ∧ laidMetH Tryd.prog Rows.decodePartsRow.laid w) ∧ sizedMet enc Tryd.prog Tryd.f6 (OpenSpec.ofChange Rows.decodePartsSpec) false w args)
      (Rows.decodePartsSpec.post enc Tryd.prog Tryd.f6 false true false false) := by
  refine returnsInHanded_of_change_and (C := Tryd.checked) (X := fun w _ => laidMetH Tryd.prog Rows.decodePartsRow.laid w) (fun _ _ _ hh h => h.of_heap hh) own started (by kernel_rfl) Tryd.func6
    (ChangeSpec.witness_shaped (enc := enc) (C := Tryd.checked) (os := os) (X := fun w _ => laidMetH Tryd.prog Rows.decodePartsRow.laid w) false (World.laidAll Tryd.prog os Rows.decodePartsRow.laid) #[.slice none 0 0] 8 (World.laidAll_os _ _ _)
      (World.shaped_of_ZipB (by kernel_rfl) (by kernel_rfl)) (by kernel_rfl) (by kernel_rfl) (by kernel_rfl)
      (by rw [MakeChecks.laidMetH_plain _ _ _ (by kernel_rfl)]; exact laidMet_laidAll _ (by kernel_rfl) (by kernel_rfl))) ?_
  intro W base args ds gs before hval0 hW _ hsz0 hL _
  have hval : ∀ (j : Nat) t v, Tryd.f6.params[j]? = some t → args[j]? = some v → Value.okWide Tryd.prog W .any base t v := hval0
  have hW1 := hW
  obtain ⟨p, q, hA0, hV, rfl, _, _⟩ := hW
  have hA : DataW.TrodAll enc Tryd.prog W 0 (fun _ => true) true Tryd.f6.params.toList args.toList ds p := hA0
  rw [Tryd.params6] at hA hval
  obtain ⟨v0, vs0, d0, ds0, p0, q0, hargs, rfl, rfl, h0, r0⟩ := trodAll_cons hA
  obtain ⟨rfl, rfl, rfl⟩ := trodAll_nil r0
  obtain rfl : args = #[v0] := by cases args; simp_all
  obtain ⟨rfl, rfl⟩ := trodVars_none hV
  have k0 := h0
  obtain ⟨a0, len0, cap0, rfl⟩ := okWide_slice Tryd.underlying22 (hval 0 22 v0 rfl rfl)
  have lt0 : ∀ x ∈ p0, x.block < W.heap.size := by obtain ⟨m, hm⟩ := k0; exact DataW.trod_lt m _ _ _ hm
  obtain ⟨fuel0, hf0⟩ := h0
  obtain ⟨bs0, rfl, hC0, hK0, hl0, hc0⟩ := open_bytes_cap hf0
  rw [MakeChecks.laidMetH_plain _ _ _ (by kernel_rfl)] at hL
  have hT := tabs_of hL
  clear hA0 hval0 hsz0
  refine (parts_any a0 bs0 cap0 W hC0 hK0 hT hl0 hc0).mono fun e W2 hE => ?_
  obtain ⟨he, bel⟩ := hE
  subst he
  exact ⟨_, rfl, _, _, _, [], _, [], hW1, trodAll_mk1 (shut_bool Tryd.underlying4 _), (trodAll_cons_mk (Below.trod laidOut (by kernel_rfl) (of_decide_eq_true (by kernel_rfl)) k0 bel lt0) trodAll_mk0), rfl, bel.frame _, fun h => by cases h⟩
theorem decodeParts_over : Rows.decodePartsRow.holds Tryd.pinned (OpenSpec.ofChange Rows.decodePartsSpec) :=
  OpenClaim.holds_of_wide 6 Tryd.f6 rfl rfl rfl rfl rfl rfl rfl ⟨rfl, rfl, rfl, rfl, rfl⟩ rfl rfl rfl rfl rfl (by kernel_rfl) Tryd.func6 (by kernel_rfl)
    (of_decide_eq_true (by kernel_rfl)) (by unfold Func.isWrapper; first | (rw [if_pos (by decide +kernel)]; kernel_rfl) | (rw [if_neg (by decide +kernel)]; exact ⟨rfl, rfl⟩))
    (fun os started H enc _ => decodeParts_lifted os started H enc)
theorem decodeParts_card : Rows.DecodePartsCardSaid :=
  Claim7.holds_tied_plain_at .later [] [.data, .pinned] true Rows.decodePartsCard.stood.harness true decodeParts_over (fun _ h => by cases h) (by kernel_rfl) (fun _ h => by cases h) decodeParts_row_tie rfl ⟨rfl, rfl⟩ (by kernel_rfl) rfl
    (fun f fn hf hfn => by
      obtain rfl : f = 6 := Option.some.inj ((show Tryd.prog.funcNamed "gobo/gobolaw3.DecodeParts" = some 6 by kernel_rfl).symm.trans hf) |>.symm
      obtain rfl : fn = Tryd.f6 := (Option.some.inj (Tryd.func6.symm.trans hfn)).symm
      exact ⟨by kernel_rfl, fun j t ht => by
        rw [Tryd.params6] at ht
        have hm : t ∈ [22] := by simpa using Array.mem_of_getElem? ht
        have hall : ([22].all fun u => !Tryd.prog.wantsStandIn u) = true := by kernel_rfl
        exact (show Tryd.prog.wantsStandIn t = false by simpa using List.all_eq_true.1 hall t hm)⟩)
    (by kernel_rfl)
#print axioms decodeParts_card
end Go.Proofs.YtlopjkfhkfbhlaaDoor.Dec
