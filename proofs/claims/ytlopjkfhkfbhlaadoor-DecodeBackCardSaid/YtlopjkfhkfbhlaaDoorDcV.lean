import Derived.Test.YtlopjkfhkfbhlaaDoorDcU
set_option linter.unusedVariables false
set_option linter.unusedSimpArgs false
namespace Go.Proofs.YtlopjkfhkfbhlaaDoor.Dec
open Go Go.RowKit Go.Proofs.YtlopjkfhkfbhlaaDoorW.PrintWords Go.Proofs.YtlopjkfhkfbhlaaDoorW.PrintLast Go.Proofs.YtlopjkfhkfbhlaaDoorW.PrintMore
/-- the bytes of the first runes -/
def flatS (l : List Int) (k : Nat) : List Int := (l.take k).flatMap putS
theorem flatS_all (l : List Int) : flatS l l.length = l.flatMap putS := by rw [flatS, List.take_length]
theorem allS_flat (l : List Int) : allS (flatS l l.length) = backS 0 l := by rw [flatS_all, all_back]
theorem flat_snoc (l : List Int) (k : Nat) (h : k < l.length) : flatS l (k + 1) = flatS l k ++ putS l[k] := by
  unfold flatS
  rw [List.take_succ_eq_append_getElem h, List.flatMap_append]
  simp
theorem flat_le (l : List Int) (k : Nat) (hl : l.length ≤ 60) : (flatS l k).length ≤ 240 := by
  unfold flatS
  have h := flat_len (l.take k)
  have h2 : (l.take k).length ≤ l.length := by
    rw [List.length_take]
    omega
  omega
set_option maxHeartbeats 2000000 in
set_option maxRecDepth 100000 in
theorem back_any (A : Option Addr) (l : List Int) (c : Nat) (w : World) (hC : Kd.C (Kd.int .i32) w A l.length l) (hk : ∀ b ∈ l, -2147483648 ≤ b ∧ b < 2147483648) (hT : Tabs w) (hl : l.length ≤ 9223372036854775807) :
    Calls Tryd.prog 5 #[.slice A l.length c] w fun e w' => e = .returned (.bool true) ∧ Below w.heap.size w w' := by
  have HC := Aside0.mk hC
  have HT := Aside0.mk hT
  have HK := Aside0.mk hk
  have hu36 := Tryd.underlying36
  clear hC hT hk
  by_cases h60 : l.length ≤ 60
  · go_enter Tryd.func5, Tryd.ntmps5
    go_wp2
    go_loopw [3, 4] (fun b i W => ∃ (k : Nat) (A1 : Option Addr) (c1 : Nat), i = .int .i64 k ∧ k ≤ l.length ∧ b = .slice A1 (flatS l k).length c1 ∧ Aside0 ((Kd.int .u8).R 5 W w.heap.size (fun _ => True) (.slice A1 (flatS l k).length c1) (flatS l k)) ∧ Aside0 (Below w.heap.size w W)) (fun _ i _ => l.length - (intOf i).toNat)
    case atStart => exact ⟨0, none, 0, rfl, Nat.zero_le _, by simp [flatS], ⟨by simpa [flatS] using Kd.R_nil _ _ _ _ _⟩, ⟨Below.refl _ _⟩⟩
    case round =>
      obtain ⟨k, A1, c1, rfl, hkl, rfl, HR, HB⟩ := hrel
      by_cases hlt : k < l.length
      · obtain ⟨g, o, rfl, _, _⟩ := int_cells HC.out (by omega)
        have ck := int_cells_at (Kd.C_below HC.out HB.out) k hlt
        have hr := HK.out l[k] (by simp)
        have HE := Aside0.mk (flat_snoc l k hlt)
        have HL := Aside0.mk (flat_le l k h60)
        obtain ⟨r, hz⟩ : ∃ r, l[k] = r := ⟨_, rfl⟩
        rw [hz] at ck hr HE
        clear hz
        have HP := Aside0.mk (putS_len r)
        obtain ⟨hr1, hr2⟩ := hr
        go_wp2_with (first | (go_at_call 13; refine (put_any r _ hr1 hr2).mono ?_; rintro e w1 ⟨A2, c2, rfl, hR2, hb2⟩; have HB2 := Aside0.mk (HB.out.trans (hb2.mono HB.out.size)); have HR2 := Aside0.mk (Kd.R_below HR.out hb2); have HC2 := Aside0.mk (Kd.R_reads' hR2).2.2; clear hR2 hb2) | ((with_reducible refine gate_builtin (b := .append) (xs := #[.tmp 20, .tmp 25]) rfl ?_); refine Kd.R_append_row (Value.int .u8) 0 _ ?hg (.tmp 20) (.tmp 25) 22 5 (.int .u8 0) _ rfl ?ht info_u8 ?hz ?hb0 _ _ _ _ _ _ (fun _ => True) rfl rfl (fun _ _ => trivial) (HR2.out) (HC2.out) (Below.refl _ _) (HB2.out.size) ?hl ?_; (case hg => rfl); (case ht => exact Tryd.underlying22); (case hz => rfl); (case hb0 => decide); (case hl => (have := HL.out; have := HP.out; omega)); intro v1 w2 hR3 hb3 hg3 hn3))
        go_roundw
        case rel =>
          obtain ⟨A3, c3, rfl⟩ := Kd.R_slice hR3
          exact ⟨k + 1, A3, c3, by go_num, by omega, by rw [HE.out], ⟨by rw [HE.out]; exact hR3⟩, ⟨HB2.out.trans hb3⟩⟩
        case measure => simp [intOf]; omega
      · obtain rfl : k = l.length := by omega
        have HL := Aside0.mk (flat_le l l.length h60)
        have HF : Aside0 (∀ b ∈ flatS l l.length, 0 ≤ b ∧ b < 256) := ⟨by rw [flatS_all]; exact flat_bytes l⟩
        go_wp2_with fail
        refine (all_sl A1 (flatS l l.length) c1 _ (Kd.R_reads' HR.out).2.2 (fun b hb => (HF.out b hb).1) (Utf8Tabs_below HT.out HB.out) (by have := HL.out; omega)).mono ?_
        rw [allS_flat]
        rintro e w2 ⟨A2, c2, rfl, hl2, hR2, hb2⟩
        have HX := Aside0.mk (Kd.R_reads' hR2).2.2
        have HB2 := Aside0.mk (HB.out.trans (hb2.mono HB.out.size))
        have hlen := backS_length l 0
        rw [hlen]
        clear hR2 hb2 HB HR hl2
        go_wp2
        go_loopw [6, 7] (fun a i W => ∃ k : Nat, i = .int .i64 k ∧ a = .int .i64 (flatS l k).length ∧ k ≤ l.length ∧ Aside0 (Below w.heap.size w W) ∧ Aside0 (Below w2.heap.size w2 W)) (fun _ i _ => l.length - (intOf i).toNat)
        case atStart => exact ⟨0, rfl, by simp [flatS], Nat.zero_le _, ⟨HB2.out⟩, ⟨Below.refl _ _⟩⟩
        case round =>
          obtain ⟨k, rfl, rfl, hkl, HB, HW⟩ := hrel
          by_cases hlt : k < l.length
          · obtain ⟨g, o, rfl, _, _⟩ := int_cells HC.out (by omega)
            have ck := int_cells_at (Kd.C_below HC.out HB.out) k hlt
            have hr := HK.out l[k] (by simp)
            have HE := Aside0.mk (flat_snoc l k hlt)
            have HLk := Aside0.mk (flat_le l k h60)
            obtain ⟨gx, ox, rfl, _, _⟩ := item_cells HX.out (by omega)
            have hz2 := backS_at l 0 k hlt
            rw [show (l.take k).flatMap putS = flatS l k from rfl] at hz2
            obtain ⟨r, hz⟩ : ∃ r, l[k] = r := ⟨_, rfl⟩
            rw [hz] at ck hr HE hz2
            clear hz
            have HZ := Aside0.mk hz2
            clear hz2
            obtain ⟨p, hp⟩ : ∃ p : Nat, (flatS l k).length = p := ⟨_, rfl⟩
            rw [hp] at HZ HLk
            rw [hp]
            have HPP := Aside0.mk hp
            clear hp hlen
            have hq := (putS_len r).2
            have hp1 := HLk.out
            clear HLk
            obtain ⟨hr1, hr2⟩ := hr
            have HN : Aside0 (normS r = if 0 ≤ r ∧ r ≤ 1114111 ∧ (r < 55296 ∨ 57343 < r) then r else 65533) := ⟨by unfold normS scalarB; simp [and_assoc]⟩
            by_cases k1 : r < 0
            · have hn : normS r = 65533 := by rw [HN.out, if_neg (by omega)]
              go_wp2_with (first | (go_at_call 13; refine (put_any r _ hr1 hr2).mono ?_; rintro e w3 ⟨A3, c3, rfl, hR3, hb3⟩; have HB3 := Aside0.mk (HB.out.trans (hb3.mono HB.out.size)); have HW3 := Aside0.mk (HW.out.trans (hb3.mono HW.out.size)); obtain ⟨x0, x1, x2, x3, x4⟩ := item_at (Kd.C_below HX.out HW3.out) k (by rw [backS_length]; exact hlt); rw [HZ.out] at x0 x1 x2 x3 x4; simp only [hn, Int.zero_add] at x0 x1 x2 x3 x4; clear hR3 hb3 hn))
              go_roundw
              case rel => exact ⟨k + 1, by go_num, by rw [HE.out, List.length_append, HPP.out]; simp, by omega, ⟨HB3.out⟩, ⟨HW3.out⟩⟩
              case measure => simp [intOf]; omega
            by_cases k2 : 1114111 < r
            · have hn : normS r = 65533 := by rw [HN.out, if_neg (by omega)]
              go_wp2_with (first | (go_at_call 13; refine (put_any r _ hr1 hr2).mono ?_; rintro e w3 ⟨A3, c3, rfl, hR3, hb3⟩; have HB3 := Aside0.mk (HB.out.trans (hb3.mono HB.out.size)); have HW3 := Aside0.mk (HW.out.trans (hb3.mono HW.out.size)); obtain ⟨x0, x1, x2, x3, x4⟩ := item_at (Kd.C_below HX.out HW3.out) k (by rw [backS_length]; exact hlt); rw [HZ.out] at x0 x1 x2 x3 x4; simp only [hn, Int.zero_add] at x0 x1 x2 x3 x4; clear hR3 hb3 hn))
              go_roundw
              case rel => exact ⟨k + 1, by go_num, by rw [HE.out, List.length_append, HPP.out]; simp, by omega, ⟨HB3.out⟩, ⟨HW3.out⟩⟩
              case measure => simp [intOf]; omega
            by_cases k3 : 55296 ≤ r
            · by_cases k4 : r ≤ 57343
              · have hn : normS r = 65533 := by rw [HN.out, if_neg (by omega)]
                go_wp2_with (first | (go_at_call 13; refine (put_any r _ hr1 hr2).mono ?_; rintro e w3 ⟨A3, c3, rfl, hR3, hb3⟩; have HB3 := Aside0.mk (HB.out.trans (hb3.mono HB.out.size)); have HW3 := Aside0.mk (HW.out.trans (hb3.mono HW.out.size)); obtain ⟨x0, x1, x2, x3, x4⟩ := item_at (Kd.C_below HX.out HW3.out) k (by rw [backS_length]; exact hlt); rw [HZ.out] at x0 x1 x2 x3 x4; simp only [hn, Int.zero_add] at x0 x1 x2 x3 x4; clear hR3 hb3 hn))
                go_roundw
                case rel => exact ⟨k + 1, by go_num, by rw [HE.out, List.length_append, HPP.out]; simp, by omega, ⟨HB3.out⟩, ⟨HW3.out⟩⟩
                case measure => simp [intOf]; omega
              · have hn : normS r = r := by rw [HN.out, if_pos (by omega)]
                go_wp2_with (first | (go_at_call 13; refine (put_any r _ hr1 hr2).mono ?_; rintro e w3 ⟨A3, c3, rfl, hR3, hb3⟩; have HB3 := Aside0.mk (HB.out.trans (hb3.mono HB.out.size)); have HW3 := Aside0.mk (HW.out.trans (hb3.mono HW.out.size)); obtain ⟨x0, x1, x2, x3, x4⟩ := item_at (Kd.C_below HX.out HW3.out) k (by rw [backS_length]; exact hlt); rw [HZ.out] at x0 x1 x2 x3 x4; simp only [hn, Int.zero_add] at x0 x1 x2 x3 x4; clear hR3 hb3 hn))
                go_roundw
                case rel => exact ⟨k + 1, by go_num, by rw [HE.out, List.length_append, HPP.out]; simp, by omega, ⟨HB3.out⟩, ⟨HW3.out⟩⟩
                case measure => simp [intOf]; omega
            · have hn : normS r = r := by rw [HN.out, if_pos (by omega)]
              go_wp2_with (first | (go_at_call 13; refine (put_any r _ hr1 hr2).mono ?_; rintro e w3 ⟨A3, c3, rfl, hR3, hb3⟩; have HB3 := Aside0.mk (HB.out.trans (hb3.mono HB.out.size)); have HW3 := Aside0.mk (HW.out.trans (hb3.mono HW.out.size)); obtain ⟨x0, x1, x2, x3, x4⟩ := item_at (Kd.C_below HX.out HW3.out) k (by rw [backS_length]; exact hlt); rw [HZ.out] at x0 x1 x2 x3 x4; simp only [hn, Int.zero_add] at x0 x1 x2 x3 x4; clear hR3 hb3 hn))
              go_roundw
              case rel => exact ⟨k + 1, by go_num, by rw [HE.out, List.length_append, HPP.out]; simp, by omega, ⟨HB3.out⟩, ⟨HW3.out⟩⟩
              case measure => simp [intOf]; omega
          · go_wp2_with fail
            refine (told_any _ (Utf8Tabs_below HT.out HB.out)).mono ?_
            rintro e w3 ⟨rfl, hb3⟩
            have HB3 := Aside0.mk (HB.out.trans (hb3.mono HB.out.size))
            go_wp2_with fail
            go_ret
            exact ⟨rfl, HB3.out⟩
  · go_enter Tryd.func5, Tryd.ntmps5
    go_wp2_with fail
    refine (told_any w HT.out).mono ?_
    rintro e w1 ⟨rfl, hb1⟩
    go_wp2_with fail
    go_ret
    exact ⟨rfl, hb1⟩
end Go.Proofs.YtlopjkfhkfbhlaaDoor.Dec
