/- slices.Concat of two rows of ranges, and runes.Or. -/
import Derived.Test.YtmmdnjooddhhoaaRnN
import Derived.Lib.AppendZeros
set_option linter.unusedVariables false
set_option linter.unusedSimpArgs false
namespace Go.Proofs.Ytmmdnjooddhhoaa.Rn
open Go Go.RowKit Go.Proofs.YtmmdnjooddhhoaaW.PrintWords Go.Proofs.YtmmdnjooddhhoaaW.PrintLast Go.Proofs.YtmmdnjooddhhoaaW.PrintMore
abbrev kRg := k35
abbrev tRg : Nat := 35
theorem wpl_append_run2 {P : Program} {w : World} {ops : Array Oper} {rest : List Oper} {o : Oper} {a : Act} {Q : Exit → Act → World → Prop} (hgd : o.guard = none) (s x : Operand) (t tn : TypeId)
    (ho : o.op = .call { callee := .builtin .append, args := #[s, x], argTypes := #[t, tn] }) (vs vx : Value) (hs : a.eval s = vs) (hx : a.eval x = vx) {v' : Value} {w' : World}
    (hr : (Builtin.append_ #[t, tn] o.type #[vs, vx]).run P w = .ok v' w') (h : wpList P ops Q rest (a.put o.dst v') w') : wpList P ops Q (o :: rest) a w := by
  refine wpList_plain hgd fun K hK => ?_
  unfold Oper.wp execOp
  simp only [ho, resolve, invoke, builtin, Sem.run_bind, Sem.run_pure, Result.andThen_ok, List.map_toArray, List.map_cons, List.map_nil, hs, hx, hr]
  exact hK _ _ h
set_option maxHeartbeats 1000000 in
set_option maxRecDepth 100000 in
theorem grow_nil (n : Nat) (hn : n ≤ 2000000) (w : World) : Calls Try.prog 53 #[.slice none 0 0, .int .i64 n] w fun e w' => ∃ A c, e = .returned (.slice A 0 c) ∧ Kd.R kRg tRg w' w.heap.size (fun _ => True) (.slice A 0 c) [] ∧ Below w.heap.size w w' := by
  by_cases h0 : n = 0
  · subst h0
    go_enter Try.func53, Try.ntmps53
    go_wp2
    go_ret
    exact ⟨none, 0, rfl, Kd.R_nil _ _ _ _ _, Below.refl _ _⟩
  · have hpos : (0 : Int) < (n : Int) := by omega
    obtain ⟨i, hi, hz0, hz1, hz2⟩ := info_parts info35
    have hrun := fun W => Lib.run_append_nil_zeros (P := Try.prog) W 22 3 22 35 i _ .i64 .i64 Try.underlying22 Try.underlying3 hi hz0 n (by omega) (by rw [hz1]; decide) (by omega) (by rw [hz2]; omega)
    have HRUN := Aside0.mk hrun
    have hge := grownCap_ge w n 0 35
    have hcm := grownCap_le_maxLen w n 0 35 (by unfold maxLen; omega)
    obtain ⟨cap, hcap⟩ : ∃ cap, grownCap w n 0 35 = cap := ⟨_, rfl⟩
    rw [hcap] at hge hcm
    have HCAP := Aside0.mk hcap
    have hc0 : (0 : Int) ≤ (cap : Int) := by omega
    clear hrun hcap hi hz0 hz1 hz2
    go_enter Try.func53, Try.ntmps53
    go_wp2_with ((with_reducible refine gate_builtin (b := .append) (xs := #[.tmp 20, .tmp 21]) rfl ?_); refine wpl_append_run2 rfl (.tmp 20) (.tmp 21) 22 3 rfl _ _ rfl rfl (HRUN.out _) ?_; rw [HCAP.out])
    go_ret
    refine ⟨some ⟨w.heap.size, 0, none⟩, cap, rfl, ⟨fun _ _ => trivial, [], ⟨rfl, .inr ⟨w.heap.size, cap, _, rfl, Nat.le_refl _, blk_new _ _, Nat.zero_le _, hcm, ?_, rfl⟩⟩, Reps.none _ _⟩, below_alloc (below_drew1 (Below.refl _ _)) _⟩
    show _ = cap * 2
    simp [size_zeroCells, Value.cells]
    omega
/-- the first k of some rows, one behind the other -/
def catS (ls : Nat → List Rg) : Nat → List Rg
  | 0 => []
  | k + 1 => catS ls k ++ ls k
set_option maxHeartbeats 2000000 in
set_option maxRecDepth 100000 in
theorem concat_any (g n : Nat) (ls : Nat → List Rg) (As : Nat → Option Addr) (cs : Nat → Nat) (w : World) (hX : ∀ k, k < n → w.cell? ⟨g, k, none⟩ = some (.slice (As k) (ls k).length (cs k)))
    (hC : ∀ k, k < n → Kd.C kRg w (As k) (ls k).length (ls k)) (hn : n ≤ 100) (hl : ∀ k, k ≤ n → (catS ls k).length ≤ 2000000) :
    Calls Try.prog 38 #[.slice (some ⟨g, 0, none⟩) n n] w fun e w' => ∃ A c, e = .returned (.slice A (catS ls n).length c) ∧ Kd.R kRg tRg w' w.heap.size (fun _ => True) (.slice A (catS ls n).length c) (catS ls n) ∧ Below w.heap.size w w' := by
  have HX := Aside0.mk hX
  have HC := Aside0.mk hC
  have HL := Aside0.mk hl
  clear hX hC hl
  go_enter Try.func38, Try.ntmps38
  go_wp2
  go_loopw [3, 11] (fun s i W => ∃ k : Nat, i = .int .i64 k ∧ k ≤ n ∧ s = .int .i64 (catS ls k).length ∧ Aside0 (Below w.heap.size w W)) (fun _ i _ => n - (intOf i).toNat)
  case atStart => exact ⟨0, rfl, Nat.zero_le _, rfl, ⟨Below.refl _ _⟩⟩
  case round =>
    obtain ⟨k, rfl, hkl, rfl, HB⟩ := hrel
    have h0 := HL.out k hkl
    by_cases hlt : k < n
    · have x0 := HB.out.cell (p := ⟨g, k, none⟩) (blk_lt' (HX.out k hlt))
      rw [HX.out k hlt] at x0
      have h1 := HL.out (k + 1) hlt
      have HE : Aside0 ((catS ls (k + 1)).length = (catS ls k).length + (ls k).length) := ⟨by simp [catS]⟩
      rw [HE.out] at h1
      go_wp2
      go_roundw
      case rel => exact ⟨k + 1, by go_num, by omega, by rw [HE.out]; go_num, HB⟩
      case measure => simp [intOf]; omega
    · obtain rfl : k = n := by omega
      go_wp2_with (go_at_call 53; refine (grow_nil (catS ls k).length h0 _).mono ?_; rintro e w2 ⟨A2, c2, rfl, hR2, hb2⟩; have HR2 := Aside0.mk (Kd.R_lower hR2 HB.out.size); have HB2 := Aside0.mk (join_below HB.out hb2); clear hR2 hb2 HB)
      go_loopw [6, 27] (fun v i W => ∃ (j : Nat) (A : Option Addr) (c : Nat), i = .int .i64 j ∧ j ≤ k ∧ v = .slice A (catS ls j).length c ∧ Aside0 (Kd.R kRg tRg W w.heap.size (fun _ => True) (.slice A (catS ls j).length c) (catS ls j)) ∧ Aside0 (Below w.heap.size w W)) (fun _ i _ => k - (intOf i).toNat)
      case atStart => exact ⟨0, A2, c2, rfl, Nat.zero_le _, rfl, ⟨HR2.out⟩, HB2⟩
      case round =>
        obtain ⟨j, A, c, rfl, hjl, rfl, HR, HB⟩ := hrel
        have h2 := HL.out j hjl
        by_cases hlt : j < k
        · have x0 := HB.out.cell (p := ⟨g, j, none⟩) (blk_lt' (HX.out j hlt))
          rw [HX.out j hlt] at x0
          have h3 := HL.out (j + 1) hlt
          have HE : Aside0 ((catS ls (j + 1)).length = (catS ls j).length + (ls j).length) := ⟨by simp [catS]⟩
          rw [HE.out] at h3
          have HCj := Aside0.mk (Kd.C_below (HC.out j hlt) HB.out)
          go_wp2_with (((with_reducible refine gate_builtin (b := .append) (xs := #[.tmp 31, .tmp 32]) rfl ?_); refine Kd.R_append_rows (kRg) (Rr := (kRg).K _) _ ?hg (.tmp 31) (.tmp 32) 22 35 (.agg #[(.int .i32 0), (.int .i32 0)]) _ rfl ?ht info35 ?hz ?hs0 ?hb0 (_) (_) (_) (_) (_) (_) (fun _ => True) (fun _ => False) rfl rfl (HR.out) (HCj.out) ((fun _ _ h => by rw [k35_open h]; exact k35_mkM _ _ _ _)) (fun _ h => h.elim) (fun _ _ => trivial) (Below.refl _ _) (HB.out.size) ?hl ?_; (case hg => rfl); (case ht => exact Try.underlying22); (case hz => rfl); (case hs0 => decide); (case hb0 => decide); (case hl => (have h7 := h3; omega)); intro v5 w_v5 hv5 hb_v5 hg_v5 hn_v5; (obtain ⟨A5, c5, e5⟩ := Kd.R_slice hv5; subst e5; have HR5 := Aside0.mk hv5; have HB5 := Aside0.mk (HB.out.trans hb_v5))))
          go_roundw
          case rel => exact ⟨j + 1, A5, c5, by go_num, by omega, by rw [HE.out], ⟨HR5.out⟩, HB5⟩
          case measure => simp [intOf]; omega
        · obtain rfl : j = k := by omega
          go_wp2
          go_ret
          exact ⟨_, _, rfl, HR.out, HB.out⟩
/-- the ranges of one list, normal -/
def normS (l : List Rg) : List Rg := (spansS l).map rgS
theorem norm_f (l : List Rg) (h : okR l = true) : runes_Norm.f (l.length + 1) l = some (normS l) := by
  have h1 : runes_spans.f l = some (spansS l) := by unfold runes_spans.f; rw [if_pos h]
  have hl : (spansS l).length ≤ l.length := spansS_len l
  have hl2 : l.length ≤ 1000000 := by
    unfold okR at h
    simp only [Bool.and_eq_true, decide_eq_true_eq] at h
    exact h.1
  have h2 : runes_ranges.f (l.length + 1) (spansS l) = some ((spansS l).map rgS) := ranges_l (spansS l) (by omega) (spansS l).length (l.length + 1) 0 (by omega) (by omega) (by omega)
  unfold runes_Norm.f
  rw [h1, Option.bind_some, h2]
  rfl
def runes_Or.f (l0 l1 : List Rg) : Option (List Rg) := if okR (l0 ++ l1) = true then some (normS (l0 ++ l1)) else none
set_option maxHeartbeats 2000000 in
set_option maxRecDepth 100000 in
theorem runes_Or.calls (A0 : Option Addr) (c0 : Nat) (l0 : List Rg) (A1 : Option Addr) (c1 : Nat) (l1 : List Rg) (r : List Rg) (w : World) (hr0 : Kd.C k35 w A0 l0.length l0) (hc0 : l0.length ≤ c0) (hr1 : Kd.C k35 w A1 l1.length l1) (hc1 : l1.length ≤ c1) (h : runes_Or.f l0 l1 = some r) :
    Calls Try.prog 18 #[.slice A0 l0.length c0, .slice A1 l1.length c1] w fun e w' => ∃ v0_ : Value, e = .returned (v0_) ∧ Kd.R k35 35 w' w.heap.size (fun _ => True) v0_ r ∧ Below w.heap.size w w' := by
  have hok : okR (l0 ++ l1) = true := by
    unfold runes_Or.f at h
    by_cases h1 : okR (l0 ++ l1) = true
    · exact h1
    · rw [if_neg h1] at h
      cases h
  have hr : normS (l0 ++ l1) = r := by
    unfold runes_Or.f at h
    rw [if_pos hok] at h
    exact Option.some.inj h
  have hl : (l0 ++ l1).length ≤ 1000000 := by
    unfold okR at hok
    simp only [Bool.and_eq_true, decide_eq_true_eq] at hok
    exact hok.1
  have HF : Aside0 (runes_Norm.f ((l0 ++ l1).length + 1) (l0 ++ l1) = some r) := ⟨by rw [norm_f _ hok, hr]⟩
  have HL := Aside0.mk hl
  have HC0 := Aside0.mk hr0
  have HC1 := Aside0.mk hr1
  clear hr0 hr1 h hok hr hl
  go_enter Try.func18, Try.ntmps18
  go_wp2_with fail
  obtain ⟨w1, hw1⟩ : ∃ w1, w.alloc (Obj.cells #[.slice A0 l0.length c0, .slice A1 l1.length c1] 22) = w1 := ⟨_, rfl⟩
  rw [hw1]
  have hb : w1.heap[w.heap.size]? = some (.cells #[.slice A0 l0.length c0, .slice A1 l1.length c1] 22 (0, 0)) := by rw [← hw1]; exact blk_new _ _
  have HB1 : Aside0 (Below w.heap.size w w1) := ⟨hw1 ▸ below1 w _⟩
  have HX := Aside0.mk hb
  clear hw1 hb
  have hcat : catS (fun k => if k = 0 then l0 else l1) 2 = l0 ++ l1 := rfl
  refine (concat_any w.heap.size 2 (fun k => if k = 0 then l0 else l1) (fun k => if k = 0 then A0 else A1) (fun k => if k = 0 then c0 else c1) w1 ?hx ?hc (by decide) ?hl).mono ?_
  case hx =>
    intro k hk
    obtain rfl | rfl : k = 0 ∨ k = 1 := by omega
    · exact (blk_cell HX.out 0).trans rfl
    · exact (blk_cell HX.out 1).trans rfl
  case hc =>
    intro k hk
    obtain rfl | rfl : k = 0 ∨ k = 1 := by omega
    · exact Kd.C_below HC0.out HB1.out
    · exact Kd.C_below HC1.out HB1.out
  case hl =>
    intro k hk
    have h1 := HL.out
    rw [List.length_append] at h1
    obtain rfl | rfl | rfl : k = 0 ∨ k = 1 ∨ k = 2 := by omega
    · exact Nat.zero_le _
    · show ([] ++ l0).length ≤ _
      simp only [List.nil_append]
      omega
    · rw [hcat, List.length_append]
      omega
  rw [hcat]
  rintro e w2 ⟨A2, c2, rfl, hR2, hb2⟩
  have HR2 := Aside0.mk (Kd.R_lower hR2 HB1.out.size)
  have HB2 := Aside0.mk (join_below HB1.out hb2)
  clear hR2 hb2
  obtain ⟨L, hL⟩ : ∃ L, l0 ++ l1 = L := ⟨_, rfl⟩
  rw [hL] at HR2 HF ⊢
  clear hL hcat
  go_wp2_with fail
  refine (runes_Norm.calls (L.length + 1) A2 c2 L r _ (Kd.R_reads' HR2.out).2.2 (Kd.R_reads' HR2.out).2.1 HF.out).mono ?_
  rintro e w3 ⟨v3, rfl, hR3, hb3⟩
  go_wp2
  go_ret
  exact ⟨_, rfl, Kd.R_lower hR3 HB2.out.size, join_below HB2.out hb3⟩
end Go.Proofs.Ytmmdnjooddhhoaa.Rn
