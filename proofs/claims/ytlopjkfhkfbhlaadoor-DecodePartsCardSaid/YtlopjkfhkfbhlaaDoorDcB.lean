import Derived.Test.YtlopjkfhkfbhlaaDoorDcA
set_option linter.unusedVariables false
set_option linter.unusedSimpArgs false
namespace Go.Proofs.YtlopjkfhkfbhlaaDoor.Dec
open Go Go.RowKit Go.Proofs.YtlopjkfhkfbhlaaDoorW.PrintWords Go.Proofs.YtlopjkfhkfbhlaaDoorW.PrintLast Go.Proofs.YtlopjkfhkfbhlaaDoorW.PrintMore
def wrongV : Value := .iface 63 (.agg #[])
set_option maxHeartbeats 400000 in
theorem grow_bad (A : Option Addr) (xs : List Int) (n : Nat) (k c : Int) (w : World) (hr : Kd.C (Kd.int .u8) w A xs.length xs) (hc : xs.length ≤ n) (hk : growOk xs k = false) :
    Calls Tryd.prog 32 #[.slice A xs.length n, .int .u8 k] w fun e w' => e = .panicked [{ v := wrongV, recovered := false }] ∧ Below w.heap.size w w' := by
  match xs, hr, hc, hk with
  | [], hr, hc, hk =>
    have hl : (longF k == 0) = true := by simpa [growOk] using hk
    clear hk
    go_enter Tryd.func32, Tryd.ntmps32
    go_wp2_with (go_at_call 33; refine (long_any _ _).mono ?_; rintro e w' ⟨rfl, ⟨nd, rfl⟩⟩)
    exact ⟨rfl, rfl, pw_below_drewN (Below.refl _ _) _⟩
  | [h], hr, hc, hk =>
    obtain ⟨ad, rfl, hcell⟩ := Kd.at_int hr 0 (by omega) (by simp)
    have hcell' : w.cell? ad = some (.int .u8 h) := by simpa [Addr.add, rd] using hcell
    clear hcell
    by_cases h1 : secLo h ≤ k
    · have h2 : secHi h < k := by
        simp [growOk] at hk
        have := hk h1
        omega
      clear hk
      go_enter Tryd.func32, Tryd.ntmps32
      go_wp2_with (go_at_call 35; refine (second_any _ _).mono ?_; rintro e w' ⟨rfl, ⟨nd, rfl⟩⟩)
      exact ⟨rfl, rfl, pw_below_drewN (Below.refl _ _) _⟩
    · clear hk
      go_enter Tryd.func32, Tryd.ntmps32
      go_wp2_with (go_at_call 35; refine (second_any _ _).mono ?_; rintro e w' ⟨rfl, ⟨nd, rfl⟩⟩)
      exact ⟨rfl, rfl, pw_below_drewN (Below.refl _ _) _⟩
  | a :: b :: r, hr, hc, hk =>
    have hx1 : (((a :: b :: r).length : Int) == 1) = false := by simp; omega
    have hx2 : (((a :: b :: r).length : Int) == 0) = false := by simp; omega
    have hx3 : (0 : Int) < ((a :: b :: r).length : Int) := by simp; omega
    generalize (a :: b :: r).length = m at *
    by_cases h1 : 128 ≤ k
    · have h2 : 191 < k := by
        simp [growOk] at hk
        have := hk h1
        omega
      clear hk
      go_enter Tryd.func32, Tryd.ntmps32
      go_wp2
      exact ⟨rfl, rfl, Below.refl _ _⟩
    · clear hk
      go_enter Tryd.func32, Tryd.ntmps32
      go_wp2
      exact ⟨rfl, rfl, Below.refl _ _⟩
set_option maxHeartbeats 400000 in
/-- what is left of grow, once the byte may go on -/
theorem grow_ok (A : Option Addr) (xs : List Int) (n : Nat) (k : Int) (w : World) (hr : Kd.C (Kd.int .u8) w A xs.length xs) (hc : xs.length ≤ n) (hl : xs.length ≤ 1000) (hk : growOk xs k = true) :
    Calls Tryd.prog 32 #[.slice A xs.length n, .int .u8 k] w fun e w' => ∃ v, e = .returned v ∧ Kd.R (Kd.int .u8) 5 w' w.heap.size (fun _ => True) v (xs ++ [k]) ∧ Below w.heap.size w w' := by
  match xs, hr, hc, hl, hk with
  | [], hr, hc, hl, hk =>
    have hz : (longF k == 0) = false := by simpa [growOk] using hk
    have HL := Aside0.mk hl
    clear hk
    go_enter Tryd.func32, Tryd.ntmps32
    go_wp2_with (first | (go_at_call 33; refine (long_any _ _).mono ?_; rintro e w' ⟨rfl, ⟨nd, rfl⟩⟩) | (go_at_call 36; refine (clone_any _ [] n _ (Kd.C_below hr (pw_below_drewN (Below.refl _ _) _)) hc (Nat.le_trans hl (by decide))).mono ?_; rintro e w1 ⟨v, rfl, hv, hb⟩) | ((with_reducible refine gate_builtin (b := .append) (xs := #[.tmp 43, .tmp 45]) rfl ?_); refine Kd.R_append (Kd.int .u8) _ ?hg (.tmp 43) (.tmp 45) 22 5 (.int .u8 0) _ rfl ?ht info_u8 ?hz ?hs0 ?hb0 (v) ([]) (k) ([.int .u8 k]) (fun _ => True) (fun _ => False) rfl ?hx ?hp (fun _ h => h.elim) (fun _ _ => trivial) (hv) (Below.refl _ _) (hb.size) ?hl ?_; (case hg => rfl); (case hx => first | rfl | (go_simp; done) | (simp [Act.eval]; done)); (case ht => exact Tryd.underlying22); (case hz => rfl); (case hs0 => decide); (case hb0 => decide); (case hp => first | rfl | exact kItem_mkM _ _ _ _); (case hl => (have := HL.out; omega)); intro v2 w_v2 hv2 hb_v2 hg_v2 hn_v2))
    go_ret
    exact ⟨_, rfl, Kd.R_lower hv2 (Nat.le_refl _), below_then (pw_below_drewN (Below.refl _ _) _) (Nat.le_refl _) (hb.trans hb_v2)⟩
  | [h], hr, hc, hl, hk =>
    obtain ⟨ad, rfl, hcell⟩ := Kd.at_int hr 0 (by omega) (by simp)
    have hcell' : w.cell? ad = some (.int .u8 h) := by simpa [Addr.add, rd] using hcell
    clear hcell
    have h1 : secLo h ≤ k := by simp [growOk] at hk; exact hk.1
    have h2 : k ≤ secHi h := by simp [growOk] at hk; exact hk.2
    have HL := Aside0.mk hl
    clear hk
    go_enter Tryd.func32, Tryd.ntmps32
    go_wp2_with (first | (go_at_call 35; refine (second_any _ _).mono ?_; rintro e w' ⟨rfl, ⟨nd, rfl⟩⟩) | (go_at_call 36; refine (clone_any _ [h] n _ (Kd.C_below hr (pw_below_drewN (Below.refl _ _) _)) hc (Nat.le_trans hl (by decide))).mono ?_; rintro e w1 ⟨v, rfl, hv, hb⟩) | ((with_reducible refine gate_builtin (b := .append) (xs := #[.tmp 43, .tmp 45]) rfl ?_); refine Kd.R_append (Kd.int .u8) _ ?hg (.tmp 43) (.tmp 45) 22 5 (.int .u8 0) _ rfl ?ht info_u8 ?hz ?hs0 ?hb0 (v) ([h]) (k) ([.int .u8 k]) (fun _ => True) (fun _ => False) rfl ?hx ?hp (fun _ h => h.elim) (fun _ _ => trivial) (hv) (Below.refl _ _) (hb.size) ?hl ?_; (case hg => rfl); (case hx => first | rfl | (go_simp; done) | (simp [Act.eval]; done)); (case ht => exact Tryd.underlying22); (case hz => rfl); (case hs0 => decide); (case hb0 => decide); (case hp => first | rfl | exact kItem_mkM _ _ _ _); (case hl => (have := HL.out; omega)); intro v2 w_v2 hv2 hb_v2 hg_v2 hn_v2))
    go_ret
    exact ⟨_, rfl, Kd.R_lower hv2 (Nat.le_refl _), below_then (pw_below_drewN (Below.refl _ _) _) (Nat.le_refl _) (hb.trans hb_v2)⟩
  | a :: b :: r, hr, hc, hl, hk =>
    have hx1 : (((a :: b :: r).length : Int) == 1) = false := by simp; omega
    have hx2 : (((a :: b :: r).length : Int) == 0) = false := by simp; omega
    have hx3 : (0 : Int) < ((a :: b :: r).length : Int) := by simp; omega
    have h1 : 128 ≤ k := by simp [growOk] at hk; exact hk.1
    have h2 : k ≤ 191 := by simp [growOk] at hk; exact hk.2
    clear hk
    generalize a :: b :: r = xs at *
    have HL := Aside0.mk hl
    go_enter Tryd.func32, Tryd.ntmps32
    go_wp2_with (first | (go_at_call 36; refine (clone_any _ xs n _ (Kd.C_below hr (Below.refl _ _)) hc (Nat.le_trans hl (by decide))).mono ?_; rintro e w1 ⟨v, rfl, hv, hb⟩) | ((with_reducible refine gate_builtin (b := .append) (xs := #[.tmp 43, .tmp 45]) rfl ?_); refine Kd.R_append (Kd.int .u8) _ ?hg (.tmp 43) (.tmp 45) 22 5 (.int .u8 0) _ rfl ?ht info_u8 ?hz ?hs0 ?hb0 (v) (xs) (k) ([.int .u8 k]) (fun _ => True) (fun _ => False) rfl ?hx ?hp (fun _ h => h.elim) (fun _ _ => trivial) (hv) (Below.refl _ _) (hb.size) ?hl ?_; (case hg => rfl); (case hx => first | rfl | (go_simp; done) | (simp [Act.eval]; done)); (case ht => exact Tryd.underlying22); (case hz => rfl); (case hs0 => decide); (case hb0 => decide); (case hp => first | rfl | exact kItem_mkM _ _ _ _); (case hl => (have := HL.out; omega)); intro v2 w_v2 hv2 hb_v2 hg_v2 hn_v2))
    go_ret
    exact ⟨_, rfl, Kd.R_lower hv2 (Nat.le_refl _), below_then (Below.refl _ _) (Nat.le_refl _) (hb.trans hb_v2)⟩
end Go.Proofs.YtlopjkfhkfbhlaaDoor.Dec
