/- runes.Cuts: the walk. -/
import Derived.Test.YtmmdnjooddhhoaaRnCa
set_option linter.unusedVariables false
set_option linter.unusedSimpArgs false
namespace Go.Proofs.Ytmmdnjooddhhoaa.Rn
open Go Go.RowKit Go.Proofs.YtmmdnjooddhhoaaW.PrintWords Go.Proofs.YtmmdnjooddhhoaaW.PrintLast Go.Proofs.YtmmdnjooddhhoaaW.PrintMore
theorem flat_take (ls : List (List Rg)) : ∀ k, (ls.take k).flatten.length ≤ ls.flatten.length := by
  intro k
  have h : ls.flatten = (ls.take k).flatten ++ (ls.drop k).flatten := by rw [← List.flatten_append, List.take_append_drop]
  rw [h, List.length_append]
  omega
theorem okR_get {ls : List (List Rg)} (h : okC ls = true) {k : Nat} {l : List Rg} (hl : ls[k]? = some l) : okR l = true := by
  unfold okC at h
  simp only [Bool.and_eq_true, List.all_eq_true] at h
  exact h.1.1.1 l (List.mem_of_getElem? hl)
theorem compactI_n (A : Option Addr) (xs : List Int) (n c base : Nat) (w : World) (hn : xs.length = n) (hR : Kd.R kI tI w base (fun _ => True) (.slice A n c) xs) (hl : n ≤ 1000000000000) :
    Calls Try.prog 41 #[.slice A n c] w fun e w' => e = .returned (.slice A (Go.Lib.compact xs).length c) ∧ Kd.R kI tI w' base (fun _ => True) (.slice A (Go.Lib.compact xs).length c) (Go.Lib.compact xs) ∧ Below base w w' ∧ w.grownBy w' (Value.slice A n c).ownBlock := by
  subst hn
  exact compactI_any A xs c base w hR hl
theorem int_at {W : World} {base n c : Nat} {ok : Nat → Prop} {A : Option Addr} {xs : List Int} (h : Kd.R kI tI W base ok (.slice A n c) xs) (hn : 0 < xs.length) :
    ∃ g, A = some ⟨g, 0, none⟩ ∧ ∀ j x, xs[j]? = some x → W.cell? ⟨g, j, none⟩ = some (.int .i64 x) := by
  obtain ⟨g, cur, rfl, _, hg, _, _, _, ht⟩ := int_own h hn
  refine ⟨g, rfl, fun j x hx => ?_⟩
  have hj : j < xs.length := (List.getElem?_eq_some_iff.1 hx).1
  have h2 : (cur.toList.take xs.length)[j]? = some (.int .i64 x) := by rw [ht, List.getElem?_map, hx]; rfl
  rw [List.getElem?_take, if_pos hj] at h2
  rw [blk_cell hg j]
  simpa using h2
/-- the second loop's world: what is out -/
def CutAt (w6 : World) (O : List Sp) (Ao : Option Addr) (co : Nat) (W : World) : Prop :=
  Kd.R kSp tSp W w6.heap.size (fun _ => True) (.slice Ao O.length co) O ∧ Below w6.heap.size w6 W
/-- within it: the span at hand, too -/
def CutIn (w6 : World) (g9 : Nat) (xb : Int) (st : Int × List Sp) (Ao : Option Addr) (co : Nat) (W : World) : Prop :=
  W.heap[g9]? = some (.cells #[.int .i64 st.1, .int .i64 xb] tSp (0, 0)) ∧ Kd.R kSp tSp W w6.heap.size (fun k => k ≠ g9) (.slice Ao st.2.length co) st.2 ∧ Below w6.heap.size w6 W
/-- the first loop's world -/
def EndsAt (w : World) (E : List Int) (U : List Rg) (Ae : Option Addr) (ce : Nat) (Au : Option Addr) (cu : Nat) (W : World) : Prop :=
  Kd.R kI tI W w.heap.size (fun _ => True) (.slice Ae E.length ce) E ∧ Kd.R kRg tRg W w.heap.size (fun _ => True) (.slice Au U.length cu) U ∧ Below w.heap.size w W
/-- the loop within it: over a list's spans -/
def EndsIn (w : World) (E : List Int) (U : List Rg) (L : List Sp) (Ae : Option Addr) (ce : Nat) (Au : Option Addr) (cu : Nat) (AL : Option Addr) (cL : Nat) (W : World) : Prop :=
  EndsAt w E U Ae ce Au cu W ∧ Kd.R kSp tSp W w.heap.size (fun _ => True) (.slice AL L.length cL) L
theorem endsL_take (L : List Sp) (j : Nat) (x : Sp) (h : L[j]? = some x) : endsL (L.take (j + 1)) = endsL (L.take j) ++ [x.f0, x.f1] := by
  rw [List.take_add_one, h, endsL_append]
  rfl
set_option maxHeartbeats 4000000 in
set_option maxRecDepth 100000 in
theorem runes_Cuts.calls (A0 : Option Addr) (c0 : Nat) (l0 : List (List Rg)) (r : List Rg) (w : World) (hr0 : Kd.C (Kd.slice tRg kRg) w A0 l0.length l0) (hc0 : l0.length ≤ c0) (h : runes_Cuts.f l0 = some r) :
    Calls Try.prog 27 #[.slice A0 l0.length c0] w fun e w' => ∃ v0_ : Value, e = .returned (v0_) ∧ Kd.R k35 35 w' w.heap.size (fun _ => True) v0_ r ∧ Below w.heap.size w w' := by
  have hok : okC l0 = true := by
    unfold runes_Cuts.f at h
    by_cases h1 : okC l0 = true
    · exact h1
    · rw [if_neg h1] at h
      cases h
  have hr : cutsS l0 = r := by
    unfold runes_Cuts.f at h
    rw [if_pos hok] at h
    exact Option.some.inj h
  have hfl : l0.flatten.length ≤ 1000 ∧ l0.length ≤ 1000000 ∧ okR l0.flatten = true := by
    have h := hok
    unfold okC at h
    simp only [Bool.and_eq_true, decide_eq_true_eq] at h
    exact ⟨h.1.2, h.2, h.1.1.2⟩
  obtain ⟨hfl, hll, hfo⟩ := hfl
  have HR := Aside0.mk hr
  have HC := Aside0.mk hr0
  have HOK := Aside0.mk hok
  have HFO := Aside0.mk hfo
  have HFL := Aside0.mk hfl
  clear h hok hr hr0 hfo hfl
  go_enter Try.func27, Try.ntmps27
  go_wp2
  go_loopw [3, 4, 16] (fun s u i W => ∃ (k : Nat) (Ae : Option Addr) (ce : Nat) (Au : Option Addr) (cu : Nat), i = .int .i64 k ∧ k ≤ l0.length ∧ s = .slice Ae (endsS (l0.take k)).length ce ∧ u = .slice Au (l0.take k).flatten.length cu ∧ Aside0 (EndsAt w (endsS (l0.take k)) (l0.take k).flatten Ae ce Au cu W)) (fun _ _ i _ => l0.length - (intOf i).toNat)
  case atStart => exact ⟨0, none, 0, none, 0, rfl, Nat.zero_le _, rfl, rfl, ⟨Kd.R_nil _ _ _ _ _, Kd.R_nil _ _ _ _ _, Below.refl _ _⟩⟩
  case round =>
    obtain ⟨k, Ae, ce, Au, cu, rfl, hkl, rfl, rfl, HK⟩ := hrel
    have hB1 := Nat.le_trans (flat_take l0 k) HFL.out
    have hE1 := endsS_len (l0.take k)
    by_cases hlt : k < l0.length
    · obtain ⟨l, hl⟩ : ∃ l, l0[k]? = some l := ⟨_, List.getElem?_eq_getElem hlt⟩
      have htk : l0.take (k + 1) = l0.take k ++ [l] := by rw [List.take_add_one, hl]; rfl
      have HE2 : Aside0 (endsS (l0.take (k + 1)) = endsS (l0.take k) ++ endsL (spansS l)) := ⟨by rw [htk, endsS_append]; simp [endsS]⟩
      have HU2 : Aside0 ((l0.take (k + 1)).flatten = (l0.take k).flatten ++ l) := ⟨by rw [htk, List.flatten_append]; simp⟩
      have HF : Aside0 (runes_spans.f l = some (spansS l)) := ⟨by unfold runes_spans.f; rw [if_pos (okR_get HOK.out hl)]⟩
      have HB2 : Aside0 ((l0.take k).flatten.length + l.length ≤ 1000) := ⟨by have := Nat.le_trans (flat_take l0 (k + 1)) HFL.out; rw [HU2.out, List.length_append] at this; exact this⟩
      obtain ⟨g, o, e5, hcell⟩ := rr_cells HC.out (by omega)
      subst e5
      obtain ⟨Aj, cj, hx, hcj, hCj⟩ := hcell k l hl
      have x0 := (HK.out.2.2.cell (p := ⟨g, o + k, none⟩) (blk_lt' hx)).trans hx
      have HCj := Aside0.mk hCj
      have HCL := Aside0.mk hcj
      obtain ⟨E, hE⟩ : ∃ E, endsS (l0.take k) = E := ⟨_, rfl⟩
      obtain ⟨U, hU⟩ : ∃ U, (l0.take k).flatten = U := ⟨_, rfl⟩
      rw [hE] at HK HE2 hE1 ⊢
      rw [hU] at HK HU2 HB2 hB1 hE1 ⊢
      clear hcell hx hCj hcj hl htk hE hU
      go_wp2_with (go_at_call 31; refine (runes_spans.calls Aj cj l (spansS l) _ (Kd.C_below HCj.out HK.out.2.2) HCL.out HF.out).mono ?_; rintro e w2 ⟨v2, rfl, hR2, hb2⟩; obtain ⟨AL, cL, rfl⟩ := Kd.R_slice hR2; have HI : Aside0 (EndsIn w E U (spansS l) Ae ce Au cu AL cL w2) := ⟨⟨⟨Kd.R_below HK.out.1 hb2, Kd.R_below HK.out.2.1 hb2, join_below HK.out.2.2 hb2⟩, Kd.R_lower hR2 HK.out.2.2.size⟩⟩; clear hR2 hb2 HK)
      have hsl := spansS_len l
      obtain ⟨L, hL⟩ : ∃ L, spansS l = L := ⟨_, rfl⟩
      rw [hL] at HI HE2 hsl ⊢
      clear hL HF x0
      go_loopw [3, 23] (fun s i W => ∃ (j : Nat) (Ae : Option Addr) (ce : Nat), i = .int .i64 j ∧ j ≤ L.length ∧ s = .slice Ae (E ++ endsL (L.take j)).length ce ∧ Aside0 (EndsIn w (E ++ endsL (L.take j)) U L Ae ce Au cu AL cL W)) (fun _ i _ => L.length - (intOf i).toNat)
      case atStart => exact ⟨0, Ae, ce, rfl, Nat.zero_le _, by simp [endsL], ⟨by rw [show E ++ endsL (L.take 0) = E by simp [endsL]]; exact HI.out⟩⟩
      case round =>
        obtain ⟨j, Ae, ce, rfl, hjl, rfl, HI⟩ := hrel
        have hEl : (E ++ endsL (L.take j)).length ≤ 10000 := by
          rw [List.length_append, endsL_len, List.length_take]
          have := HB2.out
          omega
        by_cases hlt2 : j < L.length
        · obtain ⟨x, hx⟩ : ∃ x, L[j]? = some x := ⟨_, List.getElem?_eq_getElem hlt2⟩
          have HN := Aside0.mk (endsL_take L j x hx)
          obtain ⟨gL, e6, _, _, hcx⟩ := sp_own HI.out.2 (by omega)
          subst e6
          obtain ⟨z0, z1⟩ := hcx j x hx
          obtain ⟨xa, xb⟩ := x
          dsimp only at z0 z1 HN
          obtain ⟨F, hF⟩ : ∃ F, E ++ endsL (L.take j) = F := ⟨_, rfl⟩
          have HN2 : Aside0 (E ++ endsL (L.take (j + 1)) = F ++ [xa, xb]) := ⟨by rw [HN.out, ← List.append_assoc, hF]⟩
          rw [hF] at HI hEl ⊢
          have HEl := Aside0.mk hEl
          clear hcx hx hF HN
          have hB9 := HB2.out
          go_upto_region 9 with (fail)
          obtain ⟨g9, hg9⟩ : ∃ g9, wr.heap.size = g9 := ⟨_, rfl⟩
          rw [hg9]
          obtain ⟨w3, hw3⟩ : ∃ w3, wr.alloc (Obj.cells #[.int .i64 xa, .int .i64 xb] 50) = w3 := ⟨_, rfl⟩
          rw [hw3]
          have h9 : w3.heap[g9]? = some (.cells #[.int .i64 xa, .int .i64 xb] 50 (0, 0)) := by rw [← hw3, ← hg9]; exact blk_new _ _
          have c90 : w3.cell? ⟨g9, 0, none⟩ = some (.int .i64 xa) := (blk_cell h9 0).trans rfl
          have c91 : w3.cell? ⟨g9, 1, none⟩ = some (.int .i64 xb) := (blk_cell h9 1).trans rfl
          have HI3 : Aside0 (EndsIn w F U L Ae ce Au cu (some ⟨gL, 0, none⟩) cL w3) := ⟨hw3 ▸ ⟨⟨Kd.R_alloc HI.out.1.1 _, Kd.R_alloc HI.out.1.2.1 _, below_alloc HI.out.1.2.2 _⟩, Kd.R_alloc HI.out.2 _⟩⟩
          clear hw3 hg9 h9 HI z0 z1
          go_wp2_with ((with_reducible refine gate_builtin (b := .append) (xs := #[.tmp 27, .tmp 32]) rfl ?_); refine Kd.R_append_rows kI (Rr := kI.K w3) (w0 := w) w.heap.size rfl (.tmp 27) (.tmp 32) 54 tI (.int .i64 0) 8 rfl underI infoI rfl (by decide) (by decide) (.slice Ae F.length ce) F [xa, xb] (some ⟨w3.heap.size, 0, none⟩) 2 2 (fun _ => True) (fun _ => False) rfl rfl (Kd.R_alloc HI3.out.1.1 _) (lit2_C (blk_new w3 _)) (fun _ _ h => h) (fun _ h => h.elim) (fun _ _ => trivial) (below_alloc HI3.out.1.2.2 _) (by have := HI3.out.1.2.2.size; simp; omega) ?hl ?_; (case hl => have := HEl.out; omega); intro v5 w5 hR5 hb5 hg5 hn5; obtain ⟨A5, c5, e5⟩ := Kd.R_slice hR5; subst e5; have HI5 : Aside0 (EndsIn w (F ++ [xa, xb]) U L A5 c5 Au cu (some ⟨gL, 0, none⟩) cL w5) := ⟨⟨hR5, R_apart (Kd.R_alloc HI3.out.1.2.1 _) (Kd.R_alloc HI3.out.1.1 _) rfl (by decide) hg5, hb5⟩, R_apart (Kd.R_alloc HI3.out.2 _) (Kd.R_alloc HI3.out.1.1 _) rfl (by decide) hg5⟩; clear hR5 hb5 hg5 hn5 HI3)
          go_roundw
          case rel => exact ⟨j + 1, A5, c5, by go_num, by omega, by rw [HN2.out, List.length_append]; rfl, ⟨by rw [HN2.out]; exact HI5.out⟩⟩
          case measure => simp [intOf]; omega
        · obtain rfl : j = L.length := by omega
          rw [List.take_length] at HI hEl ⊢
          obtain ⟨F, hF⟩ : ∃ F, E ++ endsL L = F := ⟨_, rfl⟩
          rw [hF] at HI HE2 hEl ⊢
          clear hF
          go_wp2_with (((with_reducible refine gate_builtin (b := .append) (xs := #[.tmp 35, .tmp 36]) rfl ?_); refine Kd.R_append_rows (kRg) (Rr := (kRg).K _) _ ?hg (.tmp 35) (.tmp 36) 22 35 (.agg #[(.int .i32 0), (.int .i32 0)]) _ rfl ?ht info35 ?hz ?hs0 ?hb0 (_) (_) (_) (_) (_) (_) (fun _ => True) (fun _ => False) rfl rfl (HI.out.1.2.1) (Kd.C_below HCj.out HI.out.1.2.2) ((fun _ _ h => by rw [k35_open h]; exact k35_mkM _ _ _ _)) (fun _ h => h.elim) (fun _ _ => trivial) (HI.out.1.2.2) (HI.out.1.2.2.size) ?hl ?_; (case hg => rfl); (case ht => exact Try.underlying22); (case hz => rfl); (case hs0 => decide); (case hb0 => decide); (case hl => (have h7 := HB2.out; omega)); intro v5 w_v5 hv5 hb_v5 hg_v5 hn_v5; (obtain ⟨A5, c5, e5⟩ := Kd.R_slice hv5; subst e5; have HI5 : Aside0 (EndsAt w F (U ++ l) Ae ce A5 c5 w_v5) := ⟨R_apart HI.out.1.1 HI.out.1.2.1 rfl (by decide) hg_v5, hv5, hb_v5⟩)))
          go_roundw
          case rel => exact ⟨k + 1, Ae, ce, A5, c5, by go_num, by omega, by rw [HE2.out], by rw [HU2.out, List.length_append], ⟨by rw [HE2.out, HU2.out]; exact HI5.out⟩⟩
          case measure => simp [intOf]; omega
    · obtain rfl : k = l0.length := by omega
      rw [List.take_length] at HK hE1 hB1 ⊢
      have HFS : Aside0 (runes_spans.f l0.flatten = some (spansS l0.flatten)) := ⟨by unfold runes_spans.f; rw [if_pos HFO.out]⟩
      have HCE : Aside0 (cutE l0 = Go.Lib.compact (sortI (endsS l0))) := ⟨rfl⟩
      have HRR : Aside0 ((outS (cutE l0) (spansS l0.flatten)).map rgS = r) := ⟨HR.out⟩
      have hcl := cutE_len l0
      have hsl := spansS_len l0.flatten
      obtain ⟨E, hE⟩ : ∃ E, endsS l0 = E := ⟨_, rfl⟩
      obtain ⟨U, hU⟩ : ∃ U, l0.flatten = U := ⟨_, rfl⟩
      obtain ⟨C, hC⟩ : ∃ C, cutE l0 = C := ⟨_, rfl⟩
      obtain ⟨L, hL⟩ : ∃ L, spansS U = L := ⟨_, rfl⟩
      rw [hU] at HFS HRR HK hE1 hB1 hcl hsl
      rw [hL] at HFS HRR hsl
      rw [hE] at HCE HK hE1
      rw [hC] at HCE HRR hcl
      rw [hE, hU]
      clear hE hU hC hL HR HOK HC
      go_wp2_with fail
      refine (sortI_any Ae E ce w.heap.size _ HK.out.1 (by omega)).mono ?_
      rintro e w3 ⟨rfl, hR3, hb3, hg3⟩
      have HK3 : Aside0 (Kd.R kI tI w3 w.heap.size (fun _ => True) (.slice Ae E.length ce) (sortI E) ∧ Kd.R kRg tRg w3 w.heap.size (fun _ => True) (.slice Au U.length cu) U ∧ Below w.heap.size w w3) := ⟨hR3, R_apart HK.out.2.1 HK.out.1 rfl (by decide) hg3, HK.out.2.2.trans hb3⟩
      clear hR3 hb3 hg3 HK
      go_wp2_with fail
      refine (compactI_n Ae (sortI E) E.length ce w.heap.size _ (sortI_len E) HK3.out.1 (by omega)).mono ?_
      rw [← HCE.out]
      rintro e w4 ⟨rfl, hR4, hb4, hg4⟩
      have HK4 : Aside0 (Kd.R kI tI w4 w.heap.size (fun _ => True) (.slice Ae C.length ce) C ∧ Kd.R kRg tRg w4 w.heap.size (fun _ => True) (.slice Au U.length cu) U ∧ Below w.heap.size w w4) := ⟨hR4, R_apart HK3.out.2.1 HK3.out.1 rfl (by decide) hg4, HK3.out.2.2.trans hb4⟩
      clear hR4 hb4 hg4 HK3 HCE
      go_wp2_with fail
      refine (runes_spans.calls Au cu U L _ (Kd.R_reads' HK4.out.2.1).2.2 (Kd.R_reads' HK4.out.2.1).2.1 HFS.out).mono ?_
      rintro e w6 ⟨v6, rfl, hR6, hb6⟩
      obtain ⟨AL, cL, rfl⟩ := Kd.R_slice hR6
      have HE6 := Aside0.mk (Kd.R_below HK4.out.1 hb6)
      have HL6 := Aside0.mk (Kd.R_lower hR6 HK4.out.2.2.size)
      have HB6 := Aside0.mk (join_below HK4.out.2.2 hb6)
      clear hR6 hb6 HK4
      have HO6 : Aside0 (∀ k, k ≤ L.length → (outS C (L.take k)).length ≤ 1000 * 2000) := ⟨fun k hk => Nat.le_trans (outS_len C L k hk) (Nat.mul_le_mul (by omega) (by omega))⟩
      go_wp2_with fail
      go_loopw [9, 46] (fun s i W => ∃ (k : Nat) (Ao : Option Addr) (co : Nat), i = .int .i64 k ∧ k ≤ L.length ∧ s = .slice Ao (outS C (L.take k)).length co ∧ Aside0 (CutAt w6 (outS C (L.take k)) Ao co W)) (fun _ i _ => L.length - (intOf i).toNat)
      case atStart => exact ⟨0, none, 0, rfl, Nat.zero_le _, rfl, ⟨Kd.R_nil _ _ _ _ _, Below.refl _ _⟩⟩
      case round =>
        obtain ⟨k, Ao, co, rfl, hkl, rfl, HK⟩ := hrel
        have hol := HO6.out k hkl
        by_cases hlt : k < L.length
        · obtain ⟨x, hx⟩ : ∃ x, L[k]? = some x := ⟨_, List.getElem?_eq_getElem hlt⟩
          have HN : Aside0 (outS C (L.take (k + 1)) = cutX C (outS C (L.take k)) x) := ⟨by rw [List.take_add_one, hx]; exact outS_snoc _ _ _⟩
          obtain ⟨gL, e6, _, _, hcx⟩ := sp_own HL6.out (by omega)
          subst e6
          obtain ⟨z0, z1⟩ := hcx k x hx
          have y0 := cell_after HK.out.2 z0
          have y1 := cell_after HK.out.2 z1
          obtain ⟨xa, xb⟩ := x
          dsimp only at y0 y1
          obtain ⟨O, hO⟩ : ∃ O, outS C (L.take k) = O := ⟨_, rfl⟩
          rw [hO] at HK HN hol ⊢
          clear hcx hx z0 z1 hO
          go_upto_region 19 with (fail)
          obtain ⟨g9, hg9⟩ : ∃ g9, wr.heap.size = g9 := ⟨_, rfl⟩
          rw [hg9]
          obtain ⟨w3, hw3⟩ : ∃ w3, wr.alloc (Obj.cells #[.int .i64 xa, .int .i64 xb] 50) = w3 := ⟨_, rfl⟩
          rw [hw3]
          have HI : Aside0 (CutIn w6 g9 xb (xa, O) Ao co w3) := ⟨by rw [← hw3, ← hg9]; exact blk_new _ _, by rw [← hw3]; exact Kd.R_mono (Kd.R_alloc (Kd.R_bound HK.out.1) _) (fun q hq => by have := hq.2.2.1; omega), by rw [← hw3]; exact below_alloc HK.out.2 _⟩
          have HG : Aside0 (w6.heap.size ≤ g9) := ⟨by have := HK.out.2.size; omega⟩
          clear hw3 hg9 y0 y1 HK
          go_wp2_with fail
          go_loopw [9, 52] (fun s i W => ∃ (j : Nat) (Ao : Option Addr) (co : Nat), i = .int .i64 j ∧ j ≤ C.length ∧ s = .slice Ao (runX xb (C.take j) (xa, O)).2.length co ∧ Aside0 (CutIn w6 g9 xb (runX xb (C.take j) (xa, O)) Ao co W)) (fun _ i _ => C.length - (intOf i).toNat)
          case atStart => exact ⟨0, Ao, co, rfl, Nat.zero_le _, rfl, HI⟩
          case round =>
            obtain ⟨j, Ao, co, rfl, hjl, rfl, HI⟩ := hrel
            have hql := runX_len xb (C.take j) (xa, O)
            rw [List.length_take] at hql
            by_cases hlt2 : j < C.length
            · obtain ⟨e, he⟩ : ∃ e, C[j]? = some e := ⟨_, List.getElem?_eq_getElem hlt2⟩
              have HN2 : Aside0 (runX xb (C.take (j + 1)) (xa, O) = stepX xb (runX xb (C.take j) (xa, O)) e) := ⟨by rw [List.take_add_one, he]; exact runX_snoc _ _ _ _⟩
              obtain ⟨gE, e6, hce⟩ := int_at HE6.out (by omega)
              subst e6
              have y0 := cell_after HI.out.2.2 (hce j e he)
              obtain ⟨⟨f, Q⟩, hst⟩ : ∃ st, runX xb (C.take j) (xa, O) = st := ⟨_, rfl⟩
              rw [hst] at HI HN2 hql ⊢
              dsimp only at hql ⊢
              have c90 : wr.cell? ⟨g9, 0, none⟩ = some (.int .i64 f) := (blk_cell HI.out.1 0).trans rfl
              have c91 : wr.cell? ⟨g9, 1, none⟩ = some (.int .i64 xb) := (blk_cell HI.out.1 1).trans rfl
              clear hce he hst
              by_cases h1 : f < e
              · by_cases h2 : e ≤ xb
                · have HS : Aside0 (runX xb (C.take (j + 1)) (xa, O) = (e, Q ++ [⟨f, e⟩])) := ⟨by rw [HN2.out]; unfold stepX; rw [if_pos ⟨h1, h2⟩]⟩
                  have HQL : Aside0 ((Q.length + 1) * 16 ≤ 140737488355328) := ⟨by omega⟩
                  go_wp2_with ((with_reducible refine gate_builtin (b := .append) (xs := #[.tmp 66, .tmp 71]) rfl ?_); refine R_appendS kSp (w0 := w6) w6.heap.size rfl (.tmp 66) (.tmp 71) 40 tSp (.agg #[.int .i64 0, .int .i64 0]) 16 rfl Try.underlying40 info50 rfl (by decide) (by decide) (.slice Ao Q.length co) Q ⟨f, e⟩ _ (fun q => q ≠ g9) (fun _ => False) rfl rfl (k50_mkM _ _ _ (⟨f, e⟩ : Sp)) (fun _ h => h.elim) (fun q hq => by have := blk_lt HI.out.1; omega) HI.out.2.1 HI.out.2.2 HI.out.2.2.size HQL.out ?_; intro A5 c5 w5 hR5 hb5 hg5 hn5; have hb9 := (hg5.block g9 (blk_lt HI.out.1) (fun h => HI.out.2.1.1 g9 h.symm rfl)).trans HI.out.1; have c95 : w5.cell? ⟨g9, 0, none⟩ = some (.int .i64 f) := (blk_cell hb9 0).trans rfl; have f95 := blk_frozen hb9 0; have HB9 := Aside0.mk hb9; have HR5 := Aside0.mk hR5; have HB5 := Aside0.mk hb5; clear hb9 hR5 hb5 hg5 hn5)
                  go_roundw
                  case rel => exact ⟨j + 1, A5, c5, by go_num, by omega, by rw [HS.out]; simp, ⟨by rw [HS.out]; exact ⟨blk_put HB9.out 0 _ rfl, by rw [List.length_append]; exact Kd.R_far HR5.out (fun q hq => hq) _, HB5.out.setCell (p := ⟨g9, 0, none⟩) HG.out _⟩⟩⟩
                  case measure => simp [intOf]; omega
                · have HS : Aside0 (runX xb (C.take (j + 1)) (xa, O) = (f, Q)) := ⟨by rw [HN2.out]; unfold stepX; rw [if_neg (fun h => h2 h.2)]⟩
                  have hd2 : decide (e ≤ xb) = false := decide_eq_false h2
                  go_wp2
                  repeat (go_quiet (fail); try go_wp2)
                  go_roundw
                  case rel => exact ⟨j + 1, Ao, co, by go_num, by omega, by rw [HS.out], ⟨by rw [HS.out]; exact HI.out⟩⟩
                  case measure => simp [intOf]; omega
              · have HS : Aside0 (runX xb (C.take (j + 1)) (xa, O) = (f, Q)) := ⟨by rw [HN2.out]; unfold stepX; rw [if_neg (fun h => h1 h.1)]⟩
                have hd1 : decide (f < e) = false := decide_eq_false h1
                go_wp2
                repeat (go_quiet (fail); try go_wp2)
                go_roundw
                case rel => exact ⟨j + 1, Ao, co, by go_num, by omega, by rw [HS.out], ⟨by rw [HS.out]; exact HI.out⟩⟩
                case measure => simp [intOf]; omega
            · obtain rfl : j = C.length := by omega
              rw [List.take_length] at HI ⊢
              go_wp2
              go_roundw
              case rel => exact ⟨k + 1, Ao, co, by go_num, by omega, by rw [HN.out]; rfl, ⟨by rw [HN.out]; exact ⟨Kd.R_mono HI.out.2.1 (fun _ _ => trivial), HI.out.2.2⟩⟩⟩
              case measure => simp [intOf]; omega
        · obtain rfl : k = L.length := by omega
          rw [List.take_length] at HK hol ⊢
          obtain ⟨O, hO⟩ : ∃ O, outS C L = O := ⟨_, rfl⟩
          rw [hO] at HK hol HRR ⊢
          have HF : Aside0 (runes_ranges.f (O.length + 1) O = some r) := ⟨by rw [ranges_f O hol, HRR.out]⟩
          have HB7 := Aside0.mk (join_below HB6.out HK.out.2)
          clear hO
          go_wp2_with fail
          refine (runes_ranges.calls (O.length + 1) Ao co O r _ (Kd.R_reads' HK.out.1).2.2 (Kd.R_reads' HK.out.1).2.1 HF.out).mono ?_
          rintro e w7 ⟨v7, rfl, hR7, hb7⟩
          go_wp2
          go_ret
          exact ⟨_, rfl, Kd.R_lower hR7 HB7.out.size, join_below HB7.out hb7⟩
end Go.Proofs.Ytmmdnjooddhhoaa.Rn
