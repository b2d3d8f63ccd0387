import Derived.Test.YtlopjkfhkfbhlaaDoorDcR
import Derived.Deep.RegionWith
set_option linter.unusedVariables false
set_option linter.unusedSimpArgs false
namespace Go.Proofs.YtlopjkfhkfbhlaaDoor.Dec
open Go Go.RowKit Go.Proofs.YtlopjkfhkfbhlaaDoorW.PrintWords Go.Proofs.YtlopjkfhkfbhlaaDoorW.PrintLast Go.Proofs.YtlopjkfhkfbhlaaDoorW.PrintMore
theorem bytesOf_str (bs : List Int) (hk : ∀ b ∈ bs, 0 ≤ b ∧ b < 256) : bytesOf (strOfNums bs) = bs := by
  unfold bytesOf strOfNums
  simp only [List.map_map]
  rw [List.map_congr_left (g := id) (fun b hb => ?_)]
  · simp
  · have := hk b hb
    simp only [Function.comp_apply, id]
    have h2 : (UInt8.ofNat b.toNat).toNat = b.toNat := by
      rw [UInt8.toNat_ofNat']
      omega
    rw [h2]
    omega
theorem size_str (bs : List Int) : (strOfNums bs).size = bs.length := by
  unfold strOfNums
  simp [ByteArray.size]
theorem allS_len (bs : List Int) (hl : bs.length ≤ 1000000) : (allS bs).length ≤ 2000001 := by
  have h1 := (feedS_size bs ⟨[], 0, []⟩).2
  have h2 : (closeS ⟨(feedS ⟨[], 0, []⟩ bs).held, (feedS ⟨[], 0, []⟩ bs).at_, []⟩).out.length ≤ 1 := by
    unfold closeS
    by_cases h : (feedS ⟨[], 0, []⟩ bs).held = [] <;> simp [h, tellS]
  unfold allS
  rw [List.length_append]
  simp at h1
  omega
theorem below_join {w W W' : World} (h : Below w.heap.size w W) (hb : Below W.heap.size W W') : Below w.heap.size w W' := h.trans (hb.mono h.size)
set_option maxHeartbeats 1000000 in
set_option maxRecDepth 100000 in
theorem asks_any (A : Option Addr) (bs : List Int) (c : Nat) (r : Int) (w : World) (hC : Kd.C (Kd.int .u8) w A bs.length bs) (hk : ∀ b ∈ bs, 0 ≤ b ∧ b < 256) (hT : Tabs w) (hl : bs.length ≤ 9223372036854775807) (hr : -2147483648 ≤ r) (hr' : r < 2147483648) :
    Calls Tryd.prog 3 #[.slice A bs.length c, .int .i32 r] w fun e w' => e = .returned (.bool true) ∧ Below w.heap.size w w' := by
  have HC := Aside0.mk hC
  have HT := Aside0.mk hT
  have h1 : 0 < w.heap.size := World.block_lt_of_cell? w _ (hT.1 0 (by decide))
  have h2 : 1 < w.heap.size := World.block_lt_of_cell? w _ (hT.2 0 (by decide)).1
  clear hC hT
  by_cases h400 : bs.length ≤ 400
  · have HL := Aside0.mk (allS_len bs (by omega))
    go_enter Tryd.func3, Tryd.ntmps3
    go_wp2_with fail
    go_region_with (first | (go_at_call 9; refine (told_any _ ?k1).mono ?_; (case k1 => exact Utf8Tabs_below HT.out (by repeat (first | (with_reducible assumption) | exact Below.refl _ _ | apply below_drew1 | apply pw_below_drewN | apply below_alloc))); rintro e w1 ⟨rfl, hb⟩; have hB1 := below_join (w := w) (by repeat (first | (with_reducible assumption) | exact Below.refl _ _ | apply below_drew1 | apply pw_below_drewN | apply below_alloc)) hb; clear hb; have fac_w1_0 := Kd.C_string (P := Tryd.prog) Tryd.underlying22 Tryd.underlying5 Tryd.underlying9 (c := c) (Kd.C_below HC.out hB1); have fac_w1_1 := Kd.C_string (P := Tryd.prog) Tryd.underlying22 Tryd.underlying5 Tryd.underlying9 (c := c) (Kd.C_below (Kd.C_below HC.out hB1) (below_drew1 (Below.refl _ _))); have fac_w1_2 := Kd.C_string (P := Tryd.prog) Tryd.underlying22 Tryd.underlying5 Tryd.underlying9 (c := c) (Kd.C_below (Kd.C_below (Kd.C_below HC.out hB1) (below_drew1 (Below.refl _ _))) (below_drew1 (Below.refl _ _))); have fac_w1_3 := Kd.C_string (P := Tryd.prog) Tryd.underlying22 Tryd.underlying5 Tryd.underlying9 (c := c) (Kd.C_below (Kd.C_below (Kd.C_below (Kd.C_below HC.out hB1) (below_drew1 (Below.refl _ _))) (below_drew1 (Below.refl _ _))) (below_drew1 (Below.refl _ _)))) | (go_at_call 11; refine (all_sl A bs c _ ?k1 ?k2 ?k3 ?k4).mono ?_; (case k1 => exact Kd.C_below HC.out (by repeat (first | (with_reducible assumption) | exact Below.refl _ _ | apply below_drew1 | apply pw_below_drewN | apply below_alloc))); (case k2 => exact fun b hb => (hk b hb).1); (case k3 => exact Utf8Tabs_below HT.out (by repeat (first | (with_reducible assumption) | exact Below.refl _ _ | apply below_drew1 | apply pw_below_drewN | apply below_alloc))); (case k4 => omega); rintro e w2 ⟨A2, c2, rfl, hl2, hR2, hb⟩; have hB2 := below_join (w := w) (by repeat (first | (with_reducible assumption) | exact Below.refl _ _ | apply below_drew1 | apply pw_below_drewN | apply below_alloc)) hb; clear hb; have HR2 := Aside0.mk hR2; clear hR2; have fac_w2_0 := Kd.C_string (P := Tryd.prog) Tryd.underlying22 Tryd.underlying5 Tryd.underlying9 (c := c) (Kd.C_below HC.out hB2); have fac_w2_1 := Kd.C_string (P := Tryd.prog) Tryd.underlying22 Tryd.underlying5 Tryd.underlying9 (c := c) (Kd.C_below (Kd.C_below HC.out hB2) (below_drew1 (Below.refl _ _))); have fac_w2_2 := Kd.C_string (P := Tryd.prog) Tryd.underlying22 Tryd.underlying5 Tryd.underlying9 (c := c) (Kd.C_below (Kd.C_below (Kd.C_below HC.out hB2) (below_drew1 (Below.refl _ _))) (below_drew1 (Below.refl _ _))); have fac_w2_3 := Kd.C_string (P := Tryd.prog) Tryd.underlying22 Tryd.underlying5 Tryd.underlying9 (c := c) (Kd.C_below (Kd.C_below (Kd.C_below (Kd.C_below HC.out hB2) (below_drew1 (Below.refl _ _))) (below_drew1 (Below.refl _ _))) (below_drew1 (Below.refl _ _)))) | (go_at_call 12; refine (ref_all (strOfNums bs) ?k1 _).mono ?_; (case k1 => rw [size_str]; omega); rw [bytesOf_str bs hk]; rintro e w3 ⟨A3, c3, rfl, hR3, hb⟩; have hI2 := Aside0.mk (Kd.C_below (Kd.C_below (Kd.R_reads' HR2.out).2.2 (by repeat (first | (with_reducible assumption) | exact Below.refl _ _ | apply below_drew1 | apply pw_below_drewN | apply below_alloc))) hb); have hI3 := Aside0.mk (Kd.R_reads' hR3).2.2; have hB3 := below_join (w := w) (by repeat (first | (with_reducible assumption) | exact Below.refl _ _ | apply below_drew1 | apply pw_below_drewN | apply below_alloc)) hb; clear hb hR3) | (go_at_call 10; refine (items_same A2 A3 c2 c3 (allS bs) _ ?k1 ?k2 ?k3).mono ?_; (case k1 => have := HL.out; omega); (case k2 => exact Kd.C_below hI2.out (by repeat (first | (with_reducible assumption) | exact Below.refl _ _ | apply below_drew1 | apply pw_below_drewN | apply below_alloc))); (case k3 => exact Kd.C_below hI3.out (by repeat (first | (with_reducible assumption) | exact Below.refl _ _ | apply below_drew1 | apply pw_below_drewN | apply below_alloc))); rintro e w4 ⟨rfl, hd4⟩; have hB4 := below_join (w := w) (by repeat (first | (with_reducible assumption) | exact Below.refl _ _ | apply below_drew1 | apply pw_below_drewN | apply below_alloc)) hd4.below; clear hd4) | (go_at_call 13; refine (put_any r _ hr hr').mono ?_; rintro e w5 ⟨A5, c5, rfl, hR5, hb⟩; have hB5 := below_join (w := w) (by repeat (first | (with_reducible assumption) | exact Below.refl _ _ | apply below_drew1 | apply pw_below_drewN | apply below_alloc)) hb; clear hb; have fac_w5_0 := Kd.C_string (P := Tryd.prog) Tryd.underlying22 Tryd.underlying5 Tryd.underlying9 (c := c5) ((Kd.R_reads' hR5).2.2); have fac_w5_1 := Kd.C_string (P := Tryd.prog) Tryd.underlying22 Tryd.underlying5 Tryd.underlying9 (c := c5) (Kd.C_below ((Kd.R_reads' hR5).2.2) (below_drew1 (Below.refl _ _))); have fac_w5_2 := Kd.C_string (P := Tryd.prog) Tryd.underlying22 Tryd.underlying5 Tryd.underlying9 (c := c5) (Kd.C_below (Kd.C_below ((Kd.R_reads' hR5).2.2) (below_drew1 (Below.refl _ _))) (below_drew1 (Below.refl _ _))); have fac_w5_3 := Kd.C_string (P := Tryd.prog) Tryd.underlying22 Tryd.underlying5 Tryd.underlying9 (c := c5) (Kd.C_below (Kd.C_below (Kd.C_below ((Kd.R_reads' hR5).2.2) (below_drew1 (Below.refl _ _))) (below_drew1 (Below.refl _ _))) (below_drew1 (Below.refl _ _))); have hC5 := Aside0.mk (Kd.R_reads' hR5).2.2; clear hR5) | (go_at_call 14; refine (rput_any r _).mono ?_; rintro e w6 ⟨rfl, hb⟩; have fac_w6_0 := Kd.C_string (P := Tryd.prog) Tryd.underlying22 Tryd.underlying5 Tryd.underlying9 (c := c5) (Kd.C_below (Kd.C_below hC5.out (by repeat (first | (with_reducible assumption) | exact Below.refl _ _ | apply below_drew1 | apply pw_below_drewN | apply below_alloc))) hb); have fac_w6_1 := Kd.C_string (P := Tryd.prog) Tryd.underlying22 Tryd.underlying5 Tryd.underlying9 (c := c5) (Kd.C_below (Kd.C_below (Kd.C_below hC5.out (by repeat (first | (with_reducible assumption) | exact Below.refl _ _ | apply below_drew1 | apply pw_below_drewN | apply below_alloc))) hb) (below_drew1 (Below.refl _ _))); have fac_w6_2 := Kd.C_string (P := Tryd.prog) Tryd.underlying22 Tryd.underlying5 Tryd.underlying9 (c := c5) (Kd.C_below (Kd.C_below (Kd.C_below (Kd.C_below hC5.out (by repeat (first | (with_reducible assumption) | exact Below.refl _ _ | apply below_drew1 | apply pw_below_drewN | apply below_alloc))) hb) (below_drew1 (Below.refl _ _))) (below_drew1 (Below.refl _ _))); have fac_w6_3 := Kd.C_string (P := Tryd.prog) Tryd.underlying22 Tryd.underlying5 Tryd.underlying9 (c := c5) (Kd.C_below (Kd.C_below (Kd.C_below (Kd.C_below (Kd.C_below hC5.out (by repeat (first | (with_reducible assumption) | exact Below.refl _ _ | apply below_drew1 | apply pw_below_drewN | apply below_alloc))) hb) (below_drew1 (Below.refl _ _))) (below_drew1 (Below.refl _ _))) (below_drew1 (Below.refl _ _))); have hB6 := below_join (w := w) (by repeat (first | (with_reducible assumption) | exact Below.refl _ _ | apply below_drew1 | apply pw_below_drewN | apply below_alloc)) hb; clear hb))
    all_goals (try go_wp2)
    all_goals (go_ret; exact ⟨rfl, by repeat (first | (with_reducible assumption) | exact Below.refl _ _ | apply below_drew1 | apply pw_below_drewN | apply below_alloc)⟩)
  · go_enter Tryd.func3, Tryd.ntmps3
    go_wp2_with fail
    repeat (go_quiet (fail); try go_wp2)
    refine (told_any w HT.out).mono ?_
    rintro e w1 ⟨rfl, hb1⟩
    go_wp2_with fail
    go_ret
    exact ⟨rfl, hb1⟩
end Go.Proofs.YtlopjkfhkfbhlaaDoor.Dec
