import Derived.Test.YtlopjkfhkfbhlaaDoorDcCa
set_option linter.unusedVariables false
set_option linter.unusedSimpArgs false
namespace Go.Proofs.YtlopjkfhkfbhlaaDoor.Dec
open Go Go.RowKit Go.Proofs.YtlopjkfhkfbhlaaDoorW.PrintWords Go.Proofs.YtlopjkfhkfbhlaaDoorW.PrintLast Go.Proofs.YtlopjkfhkfbhlaaDoorW.PrintMore
/-- the round's world -/
def CutsRel (w w2 : World) (bs : List Int) (p : Nat) (A1 : Option Addr) (c1 : Nat) (W : World) : Prop :=
  kItem.R 36 W w2.heap.size (fun k => w2.heap.size ≤ k) (.slice A1 (PS bs p).out.length c1) (PS bs p).out ∧ Rest W w.heap.size w.heap.size (PS bs p).held (PS bs p).at_ false ∧ Below w.heap.size w W ∧ w2.heap.size ≤ W.heap.size
set_option maxHeartbeats 4000000 in
set_option maxRecDepth 100000 in
theorem cuts_any (A : Option Addr) (bs : List Int) (c : Nat) (Z : Option Addr) (zs : List Int) (cz : Nat) (w : World) (hC : Kd.C (Kd.int .u8) w A bs.length bs) (hk : ∀ b ∈ bs, 0 ≤ b ∧ b < 256) (hcap : bs.length ≤ c)
    (hZ : Kd.C (Kd.int .i64) w Z zs.length zs) (hz : ∀ b ∈ zs, -9223372036854775808 ≤ b ∧ b < 9223372036854775808) (hT : Tabs w) (hl : bs.length ≤ 9223372036854775807) (hlz : zs.length ≤ 9223372036854775807) :
    Calls Tryd.prog 4 #[.slice A bs.length c, .slice Z zs.length cz] w fun e w' => e = .returned (.bool true) ∧ Below w.heap.size w w' := by
  have h1 : 0 < w.heap.size := World.block_lt_of_cell? w _ (hT.1 0 (by decide))
  have h2 : 1 < w.heap.size := World.block_lt_of_cell? w _ (hT.2 0 (by decide)).1
  have HC := Aside0.mk hC
  have HZ := Aside0.mk hZ
  have HT := Aside0.mk hT
  have HK := Aside0.mk hk
  have HKZ := Aside0.mk hz
  have hu36 := Tryd.underlying36
  clear hC hT hk hZ hz
  by_cases h300 : bs.length ≤ 300
  · go_enter Tryd.func4, Tryd.ntmps4
    go_wp2_with fail
    refine (new_any w).mono ?_
    rintro e w2 ⟨rfl, hD2, hb2, hs2⟩
    have HD2 := Aside0.mk hD2
    have HB2 := Aside0.mk hb2
    have HS2 := Aside0.mk hs2
    clear hD2 hb2 hs2
    go_wp2_with fail
    go_loopw [6, 7, 8] (fun l a i W => ∃ (k p : Nat) (A1 : Option Addr) (c1 : Nat), i = .int .i64 k ∧ k ≤ zs.length ∧ a = .int .i64 p ∧ p ≤ bs.length ∧ l = .slice A1 (PS bs p).out.length c1 ∧ Aside0 (CutsRel w w2 bs p A1 c1 W)) (fun _ _ i _ => zs.length - (intOf i).toNat)
    case atStart => exact ⟨0, 0, none, 0, rfl, Nat.zero_le _, rfl, Nat.zero_le _, rfl, ⟨Kd.R_nil _ _ _ _ _, HD2.out, HB2.out, Nat.le_refl _⟩⟩
    case round =>
      obtain ⟨k, p, A1, c1, rfl, hkl, rfl, hpl, rfl, HR⟩ := hrel
      by_cases hlt : k < zs.length
      · by_cases h100 : k < 100
        · obtain ⟨gz, oz, rfl, _, _⟩ := int_cells HZ.out (by omega)
          have cz := int_cells_at (Kd.C_below HZ.out HR.out.2.2.1) k hlt
          obtain ⟨z, hzz⟩ : ∃ z, zs[k] = z := ⟨_, rfl⟩
          rw [hzz] at cz
          obtain ⟨q, hq, he⟩ : ∃ q : Nat, q ≤ 6 ∧ wrap64 ((IntKind.u64.wrap z).tmod 7) = (q : Int) := by
            have h0 : 0 ≤ IntKind.u64.wrap z := by rw [IntKind.wrap_u64]; omega
            have h1 : (IntKind.u64.wrap z).tmod 7 = (IntKind.u64.wrap z) % 7 := Int.tmod_eq_emod_of_nonneg h0
            refine ⟨((IntKind.u64.wrap z) % 7).toNat, by omega, ?_⟩
            rw [h1]
            unfold wrap64
            omega
          clear hzz
          obtain ⟨m, hmin, hpm⟩ : ∃ m : Nat, min ((bs.length : Int) - p) q = (m : Int) ∧ p + m ≤ bs.length := ⟨min (bs.length - p) q, by omega, by omega⟩
          obtain ⟨ys, hys, hml⟩ : ∃ ys, (bs.drop p).take m = ys ∧ ys.length = m := ⟨_, rfl, by rw [List.length_take, List.length_drop]; omega⟩
          subst hml
          obtain ⟨iu, hiu, hiz, his, _⟩ := info_parts info_u8
          have hcut1 := cut_mid (P := Tryd.prog) 22 5 .i64 .i64 Tryd.underlying22 hiu 1 his A bs.length c (p : Int) (p + ys.length) (by omega) (by omega) (by omega) hcap
          have hcut2 := cut_to (P := Tryd.prog) 22 5 .i64 Tryd.underlying22 hiu A bs.length c ((p : Int) + ys.length) (by omega) (by omega) hcap
          have HCM : Aside0 (Kd.C (Kd.int .u8) w (if c = p then A else A.map (·.add (p * 1))) ys.length ys) := ⟨C_mid HC.out hpm hcap hys⟩
          simp only [Int.toNat_natCast] at hcut1
          obtain ⟨AM, hAM⟩ : ∃ AM, (if c = p then A else A.map (·.add (p * 1))) = AM := ⟨_, rfl⟩
          rw [hAM] at HCM hcut1
          rw [show ((p : Int) + ys.length).toNat = p + ys.length by omega] at hcut1 hcut2
          rw [show p + ys.length - p = ys.length by omega] at hcut1
          have HY := Aside0.mk hys
          have HT2 : Aside0 (Kd.C (Kd.int .u8) w A (p + ys.length) (bs.take (p + ys.length))) := ⟨by
            have h := Kd.C_take (m := p + ys.length) HC.out hpm
            rwa [show (bs.take (p + ys.length)).length = p + ys.length by rw [List.length_take]; omega] at h⟩
          have hcs : (c - p : Nat) = c - p := rfl
          clear hAM hys hiu hiz his hcs
          go_wp2_with fail
          obtain ⟨s, hs⟩ : ∃ s, PS bs p = s := ⟨_, rfl⟩
          have HSB := Aside0.mk (PS_begun bs p (fun b hb => (HK.out b hb).1))
          have HSA := Aside0.mk (PS_at bs p)
          have HSH := Aside0.mk (PS_held bs p hpl)
          have HSO := Aside0.mk (PS_out bs p)
          have HN := Aside0.mk (PS_next (bs := bs) (p := p) HY.out)
          obtain ⟨hr1, hr2, hr3, hr4⟩ := HR.out
          have HL := Aside0.mk hr1
          have HD := Aside0.mk hr2
          have HB := Aside0.mk hr3
          have HLE := Aside0.mk hr4
          clear hr1 hr2 hr3 hr4 HR
          rw [hs] at HSB HSA HSH HSO HN HL HD ⊢
          have HBY : Aside0 (∀ b ∈ ys, 0 ≤ b) := ⟨fun b hb => (HK.out b (by rw [← HY.out] at hb; exact List.mem_of_mem_drop (List.mem_of_mem_take hb))).1⟩
          clear hs
          refine (feed_sl w.heap.size w.heap.size s.held s.at_ AM ys (c - p) _ HD.out HSB.out HBY.out (Utf8Tabs_below HT.out HB.out) h1 h2 HSA.out (by have := HSH.out; have := HSA.out; omega) (by omega) (C_kept_int HCM.out HB.out (fun j hj => by omega))).mono ?_
          obtain ⟨t, ht⟩ : ∃ t, feedS ⟨s.held, s.at_, []⟩ ys = t := ⟨_, rfl⟩
          rw [ht] at HN ⊢
          clear ht
          rintro e w4 ⟨A2, c2, rfl, hl2, hR2, hD4, hB4, hK4⟩
          have HX2 := Aside0.mk (Kd.R_reads' hR2).2.2
          have HL4 : Aside0 (kItem.R 36 w4 w2.heap.size (fun _ => True) (.slice A1 s.out.length c1) s.out) := ⟨Kd.R_mono (Kd.R_kept HL.out hK4 (fun j hj (hh : j = _) => by have := HS2.out; have hj' : w2.heap.size ≤ j := hj; omega)) (fun _ _ => trivial)⟩
          have HD4 := Aside0.mk hD4
          have HB4 := Aside0.mk (HB.out.trans hB4)
          have HLE4 : Aside0 (w2.heap.size ≤ w4.heap.size) := ⟨Nat.le_trans HLE.out hB4.size⟩
          obtain ⟨s', hs'⟩ : ∃ s', PS bs (p + ys.length) = s' := ⟨_, rfl⟩
          have HSP := Aside0.mk hs'
          have HSO2 := Aside0.mk (PS_out bs (p + ys.length))
          rw [hs'] at HN HSO2
          have HLEN : Aside0 (s.out.length + t.out.length = s'.out.length) := ⟨by rw [HN.out]; simp [addOut]⟩
          have HOUT : Aside0 (s.out ++ t.out = s'.out) := ⟨by rw [HN.out]; rfl⟩
          have HHELD : Aside0 (t.held = s'.held ∧ t.at_ = s'.at_) := ⟨by rw [HN.out]; exact ⟨rfl, rfl⟩⟩
          clear hs' hR2 hD4 hB4 hK4 HL HD HB HLE hl2
          go_wp2_with (((with_reducible refine gate_builtin (b := .append) (xs := #[.tmp 41, .tmp 49]) rfl ?_); refine Kd.R_append_rows (kItem) (Rr := (kItem).K _) _ ?hg (.tmp 41) (.tmp 49) 25 36 (.agg #[(.int .i32 0), (.int .i64 0), (.int .i64 0), (.bool false), (.bool false)]) _ rfl ?ht info_item ?hz ?hs0 ?hb0 (_) (_) (_) (_) (_) (_) (fun _ => True) (fun _ => False) rfl rfl (HL4.out) (HX2.out) ((fun _ _ h => by rw [kItem_open h]; exact kItem_mkM _ _ _ _)) (fun _ h => h.elim) (fun _ _ => trivial) (Below.refl _ _) (HLE4.out) ?hl ?_; (case hg => rfl); (case ht => exact Tryd.underlying25); (case hz => rfl); (case hs0 => decide); (case hb0 => decide); (case hl => (have h7 := HLEN.out; have h8 := HSO2.out; omega)); intro v5 w_v5 hv5 hb_v5 hg_v5 hn_v5; (have HB5 := Aside0.mk (HB4.out.trans (hb_v5.mono (by have := HS2.out; omega))); have hcv := Kd.C_string (P := Tryd.prog) Tryd.underlying22 Tryd.underlying5 Tryd.underlying9 (c := c) (Kd.C_below HT2.out HB5.out))))
          obtain ⟨A5, c5, rfl⟩ := Kd.R_slice hv5
          rw [HOUT.out] at hv5 ⊢
          have HL5 := Aside0.mk (Kd.R_mono (Kd.R_bound hv5) (fun k hk => hk.2.1))
          have HD5 : Aside0 (Rest w_v5 w.heap.size w.heap.size s'.held s'.at_ false) := ⟨by
            have h := Rest_grown HD4.out HL4.out hg_v5
            rw [HHELD.out.1, HHELD.out.2] at h
            exact h⟩
          have HLE5 : Aside0 (w2.heap.size ≤ w_v5.heap.size) := ⟨Nat.le_trans HLE4.out hb_v5.size⟩
          clear hv5 hb_v5 hg_v5 hn_v5 HD4 HL4 HB4 HLE4 HX2 HN
          refine (ref_fed (strOfNums (bs.take (p + ys.length))) (by rw [size_str]; have : (bs.take (p + ys.length)).length ≤ bs.length := (by rw [List.length_take]; omega); omega) _).mono ?_
          rw [bytesOf_str _ (fun b hb => HK.out b (List.mem_of_mem_take hb)), show feedS ⟨[], 0, []⟩ (bs.take (p + ys.length)) = s' from HSP.out]
          rintro e w6 ⟨A6, c6, rfl, hR6, hb6⟩
          have HX6 := Aside0.mk (Kd.R_reads' hR6).2.2
          have HL6 := Aside0.mk (Kd.R_below HL5.out (hb6))
          have HX5 := Aside0.mk (Kd.R_reads' HL6.out).2.2
          have HD6 := Aside0.mk (HD5.out.below hb6)
          have HB6 := Aside0.mk (below_join HB5.out hb6)
          have HLE6 : Aside0 (w2.heap.size ≤ w6.heap.size) := ⟨Nat.le_trans HLE5.out hb6.size⟩
          have HLB : Aside0 (s'.out.length ≤ 1000000000) := ⟨by have := HSO2.out; omega⟩
          clear hcv hR6 hb6 HL5 HD5 HB5 HLE5 HLEN HOUT HHELD HSO HSO2 HSH HSA HSB HCM HT2 HBY hcut1 hcut2 he hmin cz
          obtain ⟨hn, hhn⟩ : ∃ hn, s'.held.length = hn := ⟨_, rfl⟩
          have HHN : Aside0 ((s'.held.length : Int) = (hn : Int)) := ⟨by rw [hhn]⟩
          obtain ⟨at', hat⟩ : ∃ at', s'.at_ = at' := ⟨_, rfl⟩
          have hsum : at' + (hn : Int) = (p : Int) + ys.length := by
            have h := PS_held bs (p + ys.length) hpm
            rw [HSP.out, hat, hhn] at h
            omega
          have hn3 : hn ≤ 3 := by
            have h := (PS_begun bs (p + ys.length) (fun b hb => (HK.out b hb).1)).len
            rw [HSP.out, hhn] at h
            exact h
          have hne1 : ((hn : Int) != (p : Int) + ys.length - at') = false := by simp; omega
          have hw18 : IntKind.i64.wrap ((p : Int) + ys.length - at') = (hn : Int) := by rw [IntKind.wrap_i64]; omega
          have HLAST : Aside0 (∀ ln1, s'.out.length = ln1 + 1 → ∃ x, s'.out[ln1]? = some x ∧ x.to_ = at') := ⟨fun ln1 h => by
            have h2 := PS_end_at (bs := bs) (p := p + ys.length) (n := ln1)
            rw [HSP.out, hat] at h2
            exact h2 h⟩
          have HFIRST : Aside0 (s'.out.length = 0 → at' = 0) := ⟨fun h => by
            have h2 := PS_first (bs := bs) (p := p + ys.length)
            rw [HSP.out] at h2
            rw [← hat]
            exact h2 (by omega)⟩
          clear hhn hat
          obtain ⟨ln, hln⟩ : ∃ ln, s'.out.length = ln := ⟨_, rfl⟩
          have HLN := Aside0.mk hln
          rw [hln]
          clear hln
          have hc18 : decide ((3 : Int) < (hn : Int)) = false := decide_eq_false (by omega)
          rcases ln with _ | ln1
          · obtain rfl := HFIRST.out HLN.out
            have hne2 : ((hn : Int) != (p : Int) + ys.length) = false := by simp; omega
            go_wp2_with (first | (go_at_call 10; refine (items_n A5 _ c5 c6 _ s'.out _ HLN.out HLB.out HX5.out HX6.out).mono ?_; rintro e w7 ⟨rfl, ⟨nd, rfl⟩⟩) | (go_at_call 18; refine (held_k w.heap.size w.heap.size s'.held s'.at_ false hn _ HHN.out (HD6.out.below (pw_below_drewN (Below.refl _ _) _))).mono ?_; rintro e w' ⟨rfl, rfl⟩))
            go_roundw
            case rel => exact ⟨k + 1, p + ys.length, A5, c5, by go_num, by omega, by go_num, hpm, by rw [HSP.out, HLN.out], ⟨by unfold CutsRel; rw [HSP.out]; exact ⟨Kd.R_below HL6.out (pw_below_drewN (Below.refl _ _) _), HD6.out.below (pw_below_drewN (Below.refl _ _) _), pw_below_drewN HB6.out _, by simpa using HLE6.out⟩⟩⟩
            case measure => simp [intOf]; omega
          · obtain ⟨x, hx, hxt⟩ := HLAST.out ln1 HLN.out
            obtain ⟨g6, o6, rfl, _, hit⟩ := item_cells HX6.out (by rw [HLN.out]; omega)
            obtain ⟨_, _, x2, _, _⟩ := hit ln1 x hx
            rw [hxt] at x2
            have hlnb : (ln1 : Int) ≤ 1000000000 := by have := HLB.out; rw [HLN.out] at this; omega
            clear hit hx hxt
            go_wp2_with (first | (go_at_call 10; refine (items_n A5 _ c5 c6 _ s'.out _ HLN.out HLB.out HX5.out HX6.out).mono ?_; rintro e w7 ⟨rfl, ⟨nd, rfl⟩⟩) | (go_at_call 18; refine (held_k w.heap.size w.heap.size s'.held s'.at_ false hn _ HHN.out (HD6.out.below (pw_below_drewN (Below.refl _ _) _))).mono ?_; rintro e w' ⟨rfl, rfl⟩))
            go_roundw
            case rel => exact ⟨k + 1, p + ys.length, A5, c5, by go_num, by omega, by go_num, hpm, by rw [HSP.out, HLN.out], ⟨by unfold CutsRel; rw [HSP.out]; exact ⟨Kd.R_below HL6.out (pw_below_drewN (Below.refl _ _) _), HD6.out.below (pw_below_drewN (Below.refl _ _) _), pw_below_drewN HB6.out _, by simpa using HLE6.out⟩⟩⟩
            case measure => simp [intOf]; omega
        · have hk100 : (100 : Int) ≤ (k : Int) := by omega
          obtain ⟨ys, hys⟩ : ∃ ys, bs.drop p = ys := ⟨_, rfl⟩
          have hyl : p + ys.length = bs.length := by rw [← hys, List.length_drop]; omega
          have hys2 : (bs.drop p).take ys.length = ys := by rw [hys, List.take_length]
          obtain ⟨iu, hiu, hiz, his, _⟩ := info_parts info_u8
          have hcut3 := cut_from (P := Tryd.prog) 22 5 .i64 Tryd.underlying22 hiu 1 his A bs.length c (p : Int) (by omega) (by omega)
          have HCM : Aside0 (Kd.C (Kd.int .u8) w (if c = p then A else A.map (·.add (p * 1))) ys.length ys) := ⟨C_mid HC.out (by omega) hcap hys2⟩
          simp only [Int.toNat_natCast] at hcut3
          obtain ⟨AM, hAM⟩ : ∃ AM, (if c = p then A else A.map (·.add (p * 1))) = AM := ⟨_, rfl⟩
          rw [hAM] at HCM hcut3
          rw [show bs.length - p = ys.length by omega] at hcut3
          have HY := Aside0.mk hys2
          have hpm : p + ys.length ≤ bs.length := by omega
          have HYL := Aside0.mk hyl
          clear hAM hys hys2 hiu hiz his hyl
          go_wp2_with fail
          obtain ⟨s, hs⟩ : ∃ s, PS bs p = s := ⟨_, rfl⟩
          have HSB := Aside0.mk (PS_begun bs p (fun b hb => (HK.out b hb).1))
          have HSA := Aside0.mk (PS_at bs p)
          have HSH := Aside0.mk (PS_held bs p hpl)
          have HSO := Aside0.mk (PS_out bs p)
          have HN := Aside0.mk (PS_next (bs := bs) (p := p) HY.out)
          obtain ⟨hr1, hr2, hr3, hr4⟩ := HR.out
          have HL := Aside0.mk hr1
          have HD := Aside0.mk hr2
          have HB := Aside0.mk hr3
          have HLE := Aside0.mk hr4
          clear hr1 hr2 hr3 hr4 HR
          rw [hs] at HSB HSA HSH HSO HN HL HD ⊢
          have HBY : Aside0 (∀ b ∈ ys, 0 ≤ b) := ⟨fun b hb => (HK.out b (by rw [← HY.out] at hb; exact List.mem_of_mem_drop (List.mem_of_mem_take hb))).1⟩
          clear hs
          refine (feed_sl w.heap.size w.heap.size s.held s.at_ AM ys (c - p) _ HD.out HSB.out HBY.out (Utf8Tabs_below HT.out HB.out) h1 h2 HSA.out (by have := HSH.out; have := HSA.out; omega) (by omega) (C_kept_int HCM.out HB.out (fun j hj => by omega))).mono ?_
          obtain ⟨t, ht⟩ : ∃ t, feedS ⟨s.held, s.at_, []⟩ ys = t := ⟨_, rfl⟩
          rw [ht] at HN ⊢
          clear ht
          rintro e w4 ⟨A2, c2, rfl, hl2, hR2, hD4, hB4, hK4⟩
          have HX2 := Aside0.mk (Kd.R_reads' hR2).2.2
          have HL4 : Aside0 (kItem.R 36 w4 w2.heap.size (fun _ => True) (.slice A1 s.out.length c1) s.out) := ⟨Kd.R_mono (Kd.R_kept HL.out hK4 (fun j hj (hh : j = _) => by have := HS2.out; have hj' : w2.heap.size ≤ j := hj; omega)) (fun _ _ => trivial)⟩
          have HD4 := Aside0.mk hD4
          have HB4 := Aside0.mk (HB.out.trans hB4)
          have HLE4 : Aside0 (w2.heap.size ≤ w4.heap.size) := ⟨Nat.le_trans HLE.out hB4.size⟩
          obtain ⟨s', hs'⟩ : ∃ s', PS bs (p + ys.length) = s' := ⟨_, rfl⟩
          have HSP := Aside0.mk hs'
          have HSO2 := Aside0.mk (PS_out bs (p + ys.length))
          rw [hs'] at HN HSO2
          have HLEN : Aside0 (s.out.length + t.out.length = s'.out.length) := ⟨by rw [HN.out]; simp [addOut]⟩
          have HOUT : Aside0 (s.out ++ t.out = s'.out) := ⟨by rw [HN.out]; rfl⟩
          have HHELD : Aside0 (t.held = s'.held ∧ t.at_ = s'.at_) := ⟨by rw [HN.out]; exact ⟨rfl, rfl⟩⟩
          clear hs' hR2 hD4 hB4 hK4 HL HD HB HLE hl2
          go_wp2_with (((with_reducible refine gate_builtin (b := .append) (xs := #[.tmp 86, .tmp 91]) rfl ?_); refine Kd.R_append_rows (kItem) (Rr := (kItem).K _) _ ?hg (.tmp 86) (.tmp 91) 25 36 (.agg #[(.int .i32 0), (.int .i64 0), (.int .i64 0), (.bool false), (.bool false)]) _ rfl ?ht info_item ?hz ?hs0 ?hb0 (_) (_) (_) (_) (_) (_) (fun _ => True) (fun _ => False) rfl rfl (HL4.out) (HX2.out) ((fun _ _ h => by rw [kItem_open h]; exact kItem_mkM _ _ _ _)) (fun _ h => h.elim) (fun _ _ => trivial) (Below.refl _ _) (HLE4.out) ?hl ?_; (case hg => rfl); (case ht => exact Tryd.underlying25); (case hz => rfl); (case hs0 => decide); (case hb0 => decide); (case hl => (have h7 := HLEN.out; have h8 := HSO2.out; omega)); intro v5 w_v5 hv5 hb_v5 hg_v5 hn_v5; (have HB5 := Aside0.mk (HB4.out.trans (hb_v5.mono (by have := HS2.out; omega))))))
          obtain ⟨A5, c5, rfl⟩ := Kd.R_slice hv5
          rw [HOUT.out] at hv5 ⊢
          have HL5 := Aside0.mk (Kd.R_mono (Kd.R_bound hv5) (fun k hk => hk.2.1))
          have HD5 : Aside0 (Rest w_v5 w.heap.size w.heap.size s'.held s'.at_ false) := ⟨by
            have h := Rest_grown HD4.out HL4.out hg_v5
            rw [HHELD.out.1, HHELD.out.2] at h
            exact h⟩
          have HLE5 : Aside0 (w2.heap.size ≤ w_v5.heap.size) := ⟨Nat.le_trans HLE4.out hb_v5.size⟩
          clear hv5 hb_v5 hg_v5 hn_v5 HD4 HL4 HB4 HLE4 HX2 HN
          have HBG := Aside0.mk (PS_begun bs (p + ys.length) (fun b hb => (HK.out b hb).1))
          have HSA2 := Aside0.mk (PS_at bs (p + ys.length))
          have HSH2 := Aside0.mk (PS_held bs (p + ys.length) hpm)
          have HALL : Aside0 (s'.out ++ (closeS ⟨s'.held, s'.at_, []⟩).out = allS bs) := ⟨by rw [PS_close bs, ← HYL.out, HSP.out]⟩
          rw [HSP.out] at HBG HSA2 HSH2
          refine (close_sl w.heap.size w.heap.size s'.held s'.at_ _ HD5.out (by have := HBG.out.len; omega) HSA2.out (by have := HSH2.out; omega)).mono ?_
          have HCH := Aside0.mk (closeS_held ⟨s'.held, s'.at_, []⟩)
          obtain ⟨cs, hcs⟩ : ∃ cs, closeS ⟨s'.held, s'.at_, []⟩ = cs := ⟨_, rfl⟩
          rw [hcs] at HALL HCH ⊢
          clear hcs
          rintro e w7 ⟨A7, c7, rfl, hl7, hR7, hD7, hB7, hK7⟩
          have HX7 := Aside0.mk (Kd.R_reads' hR7).2.2
          have HL7 : Aside0 (kItem.R 36 w7 w2.heap.size (fun _ => True) (.slice A5 s'.out.length c5) s'.out) := ⟨Kd.R_mono (Kd.R_kept HL5.out hK7 (fun j hj (hh : j = _) => by have := HS2.out; have hj' : w2.heap.size ≤ j := hj; omega)) (fun _ _ => trivial)⟩
          have HD7 := Aside0.mk hD7
          have HB7 := Aside0.mk (HB5.out.trans hB7)
          have HLE7 : Aside0 (w2.heap.size ≤ w7.heap.size) := ⟨Nat.le_trans HLE5.out hB7.size⟩
          have HAL : Aside0 (s'.out.length + cs.out.length ≤ 2000001) := ⟨by
            have h := allS_len bs (by omega)
            rw [← HALL.out, List.length_append] at h
            exact h⟩
          clear hl7 hR7 hD7 hB7 hK7 HD5 HL5 HB5 HLE5
          go_wp2_with (((with_reducible refine gate_builtin (b := .append) (xs := #[.tmp 93, .tmp 95]) rfl ?_); refine Kd.R_append_rows (kItem) (Rr := (kItem).K _) _ ?hg (.tmp 93) (.tmp 95) 25 36 (.agg #[(.int .i32 0), (.int .i64 0), (.int .i64 0), (.bool false), (.bool false)]) _ rfl ?ht info_item ?hz ?hs0 ?hb0 (_) (_) (_) (_) (_) (_) (fun _ => True) (fun _ => False) rfl rfl (HL7.out) (HX7.out) ((fun _ _ h => by rw [kItem_open h]; exact kItem_mkM _ _ _ _)) (fun _ h => h.elim) (fun _ _ => trivial) (Below.refl _ _) (HLE7.out) ?hl ?_; (case hg => rfl); (case ht => exact Tryd.underlying25); (case hz => rfl); (case hs0 => decide); (case hb0 => decide); (case hl => (have h7 := HAL.out; omega)); intro v8 w_v8 hv8 hb_v8 hg_v8 hn_v8))
          obtain ⟨A8, c8, rfl⟩ := Kd.R_slice hv8
          rw [HALL.out] at hv8 ⊢
          have HL8 := Aside0.mk hv8
          have HD8 := Aside0.mk (Rest_grown HD7.out HL7.out hg_v8)
          have HB8 := Aside0.mk (HB7.out.trans (hb_v8.mono (by have := HS2.out; omega)))
          clear hv8 hb_v8 hg_v8 hn_v8 HD7 HL7 HB7 HX7 HLE7
          refine (told_any _ (Utf8Tabs_below HT.out HB8.out)).mono ?_
          rintro e w9 ⟨rfl, hb9⟩
          have HB9 := Aside0.mk (below_join HB8.out hb9)
          have HL9 := Aside0.mk (Kd.R_below HL8.out hb9)
          have HD9 := Aside0.mk (HD8.out.below hb9)
          have hcv := Kd.C_string (P := Tryd.prog) Tryd.underlying22 Tryd.underlying5 Tryd.underlying9 (c := c) (Kd.C_below HC.out HB9.out)
          clear hb9 HL8 HD8 HB8
          go_wp2_with fail
          refine (ref_all (strOfNums bs) (by rw [size_str]; omega) _).mono ?_
          rw [bytesOf_str bs HK.out]
          rintro e w10 ⟨A10, c10, rfl, hR10, hb10⟩
          have HX10 := Aside0.mk (Kd.R_reads' hR10).2.2
          have HXA := Aside0.mk (Kd.R_reads' (Kd.R_below HL9.out hb10)).2.2
          have HD10 := Aside0.mk (HD9.out.below hb10)
          have HB10 := Aside0.mk (below_join HB9.out hb10)
          clear hcv hR10 hb10 HL9 HD9 HB9
          go_wp2_with (first | (go_at_call 10; refine (items_same A8 A10 c8 c10 (allS bs) _ (by have := allS_len bs (by omega); omega) HXA.out HX10.out).mono ?_; rintro e w11 ⟨rfl, ⟨nd, rfl⟩⟩) | (go_at_call 19; refine (close_closed w.heap.size w.heap.size cs.held cs.at_ _ (HD10.out.below (pw_below_drewN (Below.refl _ _) _))).mono ?_; rintro e w' ⟨rfl, rfl⟩) | (go_at_call 18; refine (held_k w.heap.size w.heap.size cs.held cs.at_ true 0 _ (by rw [HCH.out]; rfl) (HD10.out.below (pw_below_drewN (Below.refl _ _) _))).mono ?_; rintro e w' ⟨rfl, rfl⟩))
          go_ret
          exact ⟨rfl, pw_below_drewN HB10.out _⟩
      · obtain ⟨ys, hys⟩ : ∃ ys, bs.drop p = ys := ⟨_, rfl⟩
        have hyl : p + ys.length = bs.length := by rw [← hys, List.length_drop]; omega
        have hys2 : (bs.drop p).take ys.length = ys := by rw [hys, List.take_length]
        obtain ⟨iu, hiu, hiz, his, _⟩ := info_parts info_u8
        have hcut3 := cut_from (P := Tryd.prog) 22 5 .i64 Tryd.underlying22 hiu 1 his A bs.length c (p : Int) (by omega) (by omega)
        have HCM : Aside0 (Kd.C (Kd.int .u8) w (if c = p then A else A.map (·.add (p * 1))) ys.length ys) := ⟨C_mid HC.out (by omega) hcap hys2⟩
        simp only [Int.toNat_natCast] at hcut3
        obtain ⟨AM, hAM⟩ : ∃ AM, (if c = p then A else A.map (·.add (p * 1))) = AM := ⟨_, rfl⟩
        rw [hAM] at HCM hcut3
        rw [show bs.length - p = ys.length by omega] at hcut3
        have HY := Aside0.mk hys2
        have hpm : p + ys.length ≤ bs.length := by omega
        have HYL := Aside0.mk hyl
        clear hAM hys hys2 hiu hiz his hyl
        go_wp2_with fail
        obtain ⟨s, hs⟩ : ∃ s, PS bs p = s := ⟨_, rfl⟩
        have HSB := Aside0.mk (PS_begun bs p (fun b hb => (HK.out b hb).1))
        have HSA := Aside0.mk (PS_at bs p)
        have HSH := Aside0.mk (PS_held bs p hpl)
        have HSO := Aside0.mk (PS_out bs p)
        have HN := Aside0.mk (PS_next (bs := bs) (p := p) HY.out)
        obtain ⟨hr1, hr2, hr3, hr4⟩ := HR.out
        have HL := Aside0.mk hr1
        have HD := Aside0.mk hr2
        have HB := Aside0.mk hr3
        have HLE := Aside0.mk hr4
        clear hr1 hr2 hr3 hr4 HR
        rw [hs] at HSB HSA HSH HSO HN HL HD ⊢
        have HBY : Aside0 (∀ b ∈ ys, 0 ≤ b) := ⟨fun b hb => (HK.out b (by rw [← HY.out] at hb; exact List.mem_of_mem_drop (List.mem_of_mem_take hb))).1⟩
        clear hs
        refine (feed_sl w.heap.size w.heap.size s.held s.at_ AM ys (c - p) _ HD.out HSB.out HBY.out (Utf8Tabs_below HT.out HB.out) h1 h2 HSA.out (by have := HSH.out; have := HSA.out; omega) (by omega) (C_kept_int HCM.out HB.out (fun j hj => by omega))).mono ?_
        obtain ⟨t, ht⟩ : ∃ t, feedS ⟨s.held, s.at_, []⟩ ys = t := ⟨_, rfl⟩
        rw [ht] at HN ⊢
        clear ht
        rintro e w4 ⟨A2, c2, rfl, hl2, hR2, hD4, hB4, hK4⟩
        have HX2 := Aside0.mk (Kd.R_reads' hR2).2.2
        have HL4 : Aside0 (kItem.R 36 w4 w2.heap.size (fun _ => True) (.slice A1 s.out.length c1) s.out) := ⟨Kd.R_mono (Kd.R_kept HL.out hK4 (fun j hj (hh : j = _) => by have := HS2.out; have hj' : w2.heap.size ≤ j := hj; omega)) (fun _ _ => trivial)⟩
        have HD4 := Aside0.mk hD4
        have HB4 := Aside0.mk (HB.out.trans hB4)
        have HLE4 : Aside0 (w2.heap.size ≤ w4.heap.size) := ⟨Nat.le_trans HLE.out hB4.size⟩
        obtain ⟨s', hs'⟩ : ∃ s', PS bs (p + ys.length) = s' := ⟨_, rfl⟩
        have HSP := Aside0.mk hs'
        have HSO2 := Aside0.mk (PS_out bs (p + ys.length))
        rw [hs'] at HN HSO2
        have HLEN : Aside0 (s.out.length + t.out.length = s'.out.length) := ⟨by rw [HN.out]; simp [addOut]⟩
        have HOUT : Aside0 (s.out ++ t.out = s'.out) := ⟨by rw [HN.out]; rfl⟩
        have HHELD : Aside0 (t.held = s'.held ∧ t.at_ = s'.at_) := ⟨by rw [HN.out]; exact ⟨rfl, rfl⟩⟩
        clear hs' hR2 hD4 hB4 hK4 HL HD HB HLE hl2
        go_wp2_with (((with_reducible refine gate_builtin (b := .append) (xs := #[.tmp 86, .tmp 91]) rfl ?_); refine Kd.R_append_rows (kItem) (Rr := (kItem).K _) _ ?hg (.tmp 86) (.tmp 91) 25 36 (.agg #[(.int .i32 0), (.int .i64 0), (.int .i64 0), (.bool false), (.bool false)]) _ rfl ?ht info_item ?hz ?hs0 ?hb0 (_) (_) (_) (_) (_) (_) (fun _ => True) (fun _ => False) rfl rfl (HL4.out) (HX2.out) ((fun _ _ h => by rw [kItem_open h]; exact kItem_mkM _ _ _ _)) (fun _ h => h.elim) (fun _ _ => trivial) (Below.refl _ _) (HLE4.out) ?hl ?_; (case hg => rfl); (case ht => exact Tryd.underlying25); (case hz => rfl); (case hs0 => decide); (case hb0 => decide); (case hl => (have h7 := HLEN.out; have h8 := HSO2.out; omega)); intro v5 w_v5 hv5 hb_v5 hg_v5 hn_v5; (have HB5 := Aside0.mk (HB4.out.trans (hb_v5.mono (by have := HS2.out; omega))))))
        obtain ⟨A5, c5, rfl⟩ := Kd.R_slice hv5
        rw [HOUT.out] at hv5 ⊢
        have HL5 := Aside0.mk (Kd.R_mono (Kd.R_bound hv5) (fun k hk => hk.2.1))
        have HD5 : Aside0 (Rest w_v5 w.heap.size w.heap.size s'.held s'.at_ false) := ⟨by
          have h := Rest_grown HD4.out HL4.out hg_v5
          rw [HHELD.out.1, HHELD.out.2] at h
          exact h⟩
        have HLE5 : Aside0 (w2.heap.size ≤ w_v5.heap.size) := ⟨Nat.le_trans HLE4.out hb_v5.size⟩
        clear hv5 hb_v5 hg_v5 hn_v5 HD4 HL4 HB4 HLE4 HX2 HN
        have HBG := Aside0.mk (PS_begun bs (p + ys.length) (fun b hb => (HK.out b hb).1))
        have HSA2 := Aside0.mk (PS_at bs (p + ys.length))
        have HSH2 := Aside0.mk (PS_held bs (p + ys.length) hpm)
        have HALL : Aside0 (s'.out ++ (closeS ⟨s'.held, s'.at_, []⟩).out = allS bs) := ⟨by rw [PS_close bs, ← HYL.out, HSP.out]⟩
        rw [HSP.out] at HBG HSA2 HSH2
        refine (close_sl w.heap.size w.heap.size s'.held s'.at_ _ HD5.out (by have := HBG.out.len; omega) HSA2.out (by have := HSH2.out; omega)).mono ?_
        have HCH := Aside0.mk (closeS_held ⟨s'.held, s'.at_, []⟩)
        obtain ⟨cs, hcs⟩ : ∃ cs, closeS ⟨s'.held, s'.at_, []⟩ = cs := ⟨_, rfl⟩
        rw [hcs] at HALL HCH ⊢
        clear hcs
        rintro e w7 ⟨A7, c7, rfl, hl7, hR7, hD7, hB7, hK7⟩
        have HX7 := Aside0.mk (Kd.R_reads' hR7).2.2
        have HL7 : Aside0 (kItem.R 36 w7 w2.heap.size (fun _ => True) (.slice A5 s'.out.length c5) s'.out) := ⟨Kd.R_mono (Kd.R_kept HL5.out hK7 (fun j hj (hh : j = _) => by have := HS2.out; have hj' : w2.heap.size ≤ j := hj; omega)) (fun _ _ => trivial)⟩
        have HD7 := Aside0.mk hD7
        have HB7 := Aside0.mk (HB5.out.trans hB7)
        have HLE7 : Aside0 (w2.heap.size ≤ w7.heap.size) := ⟨Nat.le_trans HLE5.out hB7.size⟩
        have HAL : Aside0 (s'.out.length + cs.out.length ≤ 2000001) := ⟨by
          have h := allS_len bs (by omega)
          rw [← HALL.out, List.length_append] at h
          exact h⟩
        clear hl7 hR7 hD7 hB7 hK7 HD5 HL5 HB5 HLE5
        go_wp2_with (((with_reducible refine gate_builtin (b := .append) (xs := #[.tmp 93, .tmp 95]) rfl ?_); refine Kd.R_append_rows (kItem) (Rr := (kItem).K _) _ ?hg (.tmp 93) (.tmp 95) 25 36 (.agg #[(.int .i32 0), (.int .i64 0), (.int .i64 0), (.bool false), (.bool false)]) _ rfl ?ht info_item ?hz ?hs0 ?hb0 (_) (_) (_) (_) (_) (_) (fun _ => True) (fun _ => False) rfl rfl (HL7.out) (HX7.out) ((fun _ _ h => by rw [kItem_open h]; exact kItem_mkM _ _ _ _)) (fun _ h => h.elim) (fun _ _ => trivial) (Below.refl _ _) (HLE7.out) ?hl ?_; (case hg => rfl); (case ht => exact Tryd.underlying25); (case hz => rfl); (case hs0 => decide); (case hb0 => decide); (case hl => (have h7 := HAL.out; omega)); intro v8 w_v8 hv8 hb_v8 hg_v8 hn_v8))
        obtain ⟨A8, c8, rfl⟩ := Kd.R_slice hv8
        rw [HALL.out] at hv8 ⊢
        have HL8 := Aside0.mk hv8
        have HD8 := Aside0.mk (Rest_grown HD7.out HL7.out hg_v8)
        have HB8 := Aside0.mk (HB7.out.trans (hb_v8.mono (by have := HS2.out; omega)))
        clear hv8 hb_v8 hg_v8 hn_v8 HD7 HL7 HB7 HX7 HLE7
        refine (told_any _ (Utf8Tabs_below HT.out HB8.out)).mono ?_
        rintro e w9 ⟨rfl, hb9⟩
        have HB9 := Aside0.mk (below_join HB8.out hb9)
        have HL9 := Aside0.mk (Kd.R_below HL8.out hb9)
        have HD9 := Aside0.mk (HD8.out.below hb9)
        have hcv := Kd.C_string (P := Tryd.prog) Tryd.underlying22 Tryd.underlying5 Tryd.underlying9 (c := c) (Kd.C_below HC.out HB9.out)
        clear hb9 HL8 HD8 HB8
        go_wp2_with fail
        refine (ref_all (strOfNums bs) (by rw [size_str]; omega) _).mono ?_
        rw [bytesOf_str bs HK.out]
        rintro e w10 ⟨A10, c10, rfl, hR10, hb10⟩
        have HX10 := Aside0.mk (Kd.R_reads' hR10).2.2
        have HXA := Aside0.mk (Kd.R_reads' (Kd.R_below HL9.out hb10)).2.2
        have HD10 := Aside0.mk (HD9.out.below hb10)
        have HB10 := Aside0.mk (below_join HB9.out hb10)
        clear hcv hR10 hb10 HL9 HD9 HB9
        go_wp2_with (first | (go_at_call 10; refine (items_same A8 A10 c8 c10 (allS bs) _ (by have := allS_len bs (by omega); omega) HXA.out HX10.out).mono ?_; rintro e w11 ⟨rfl, ⟨nd, rfl⟩⟩) | (go_at_call 19; refine (close_closed w.heap.size w.heap.size cs.held cs.at_ _ (HD10.out.below (pw_below_drewN (Below.refl _ _) _))).mono ?_; rintro e w' ⟨rfl, rfl⟩) | (go_at_call 18; refine (held_k w.heap.size w.heap.size cs.held cs.at_ true 0 _ (by rw [HCH.out]; rfl) (HD10.out.below (pw_below_drewN (Below.refl _ _) _))).mono ?_; rintro e w' ⟨rfl, rfl⟩))
        go_ret
        exact ⟨rfl, pw_below_drewN HB10.out _⟩
  · go_enter Tryd.func4, Tryd.ntmps4
    go_wp2_with fail
    refine (new_any w).mono ?_
    rintro e w2 ⟨rfl, hD2, hb2, hs2⟩
    go_wp2_with fail
    refine (told_any _ (Utf8Tabs_below HT.out hb2)).mono ?_
    rintro e w1 ⟨rfl, hb1⟩
    go_wp2_with fail
    go_ret
    exact ⟨rfl, below_join hb2 hb1⟩
end Go.Proofs.YtlopjkfhkfbhlaaDoor.Dec
