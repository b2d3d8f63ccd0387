import Derived.Test.YtlopjkfhkfbhlaaDoorDcU
import Derived.Test.YtlopjkfhkfbhlaaDoorDcT
import Derived.Test.YtlopjkfhkfbhlaaDoorDcY
set_option linter.unusedVariables false
set_option linter.unusedSimpArgs false
namespace Go.Proofs.YtlopjkfhkfbhlaaDoor.Dec
open Go Go.RowKit Go.Proofs.YtlopjkfhkfbhlaaDoorW.PrintWords Go.Proofs.YtlopjkfhkfbhlaaDoorW.PrintLast Go.Proofs.YtlopjkfhkfbhlaaDoorW.PrintMore
theorem u8_and127 {c : Int} (h0 : 0 ≤ c) (h1 : c < 256) : bits .and .u8 c 127 = c % 128 := bits_mask .u8 8 (by decide) (fun n _ _ => by rw [IntKind.wrap_u8]; omega) 7 (by decide) c h0 (by simpa using h1)
/-- one cell of a row is a row -/
theorem C_one {k : IntKind} {W : World} {g o : Nat} {xs : List Int} (h : Kd.C (Kd.int k) W (some ⟨g, o, none⟩) xs.length xs) (j : Nat) (hj : j < xs.length) : Kd.C (Kd.int k) W (some ⟨g, o + j, none⟩) 1 [xs[j]] := by
  have e := C_of_cells (k := k) (W := W) (x := ⟨g, o + j, none⟩) (len := 1) (zs := [xs[j]]) (by simp) (by decide) (fun i hi => by
    obtain rfl : i = 0 := by simpa using hi
    exact int_cells_at h j hj)
  exact e
/-- the state behind so many bytes of a whole rune -/
theorem feed_part {ys : List Int} (hw : Whole ys) (k : Nat) (hk : k < ys.length) :
    feedS ⟨ys.take k, 1, []⟩ [ys[k]] = if k + 1 < ys.length then ⟨ys.take (k + 1), 1, []⟩ else ⟨[], 1 + ys.length, [(⟨runeOf ys, 1, 1 + ys.length, false, false⟩ : Item)]⟩ := by
  obtain ⟨h1, h2⟩ := feed_whole hw 1 []
  have e : feedS ⟨ys.take k, 1, []⟩ [ys[k]] = feedS ⟨[], 1, []⟩ (ys.take (k + 1)) := by
    rw [List.take_succ_eq_append_getElem hk, feedS_app, h2 k hk]
  rw [e]
  by_cases h3 : k + 1 < ys.length
  · rw [if_pos h3]
    exact h2 (k + 1) h3
  · rw [if_neg h3, List.take_of_length_le (by omega)]
    simpa using h1
theorem begun_take {ys : List Int} (hw : Whole ys) (k : Nat) (hk : k < ys.length) (h0 : ∀ b ∈ ys, 0 ≤ b) : Begun (ys.take k) := by
  have h := feedS_begun (ys.take k) ⟨[], 1, []⟩ trivial (fun b hb => h0 b (List.mem_of_mem_take hb))
  rw [(feed_whole hw 1 []).2 k hk] at h
  exact h
theorem held_n (B g : Nat) (held : List Int) (at_ : Int) (cl : Bool) (v : Int) (w : World) (hv : (held.length : Int) = v) (hD : Rest w B g held at_ cl) :
    Calls Tryd.prog 18 #[.pointer (some ⟨g, 0, none⟩)] w fun e w' => e = .returned (.int .i64 v) ∧ w = w' := by
  subst hv
  exact held_any B g held at_ cl w hD
set_option maxHeartbeats 1500000 in
set_option maxRecDepth 100000 in
theorem held_law (r c : Int) (w : World) (hr1 : -2147483648 ≤ r) (hr2 : r < 2147483648) (hc1 : 0 ≤ c) (hc2 : c < 256) (hT : Tabs w) :
    Calls Tryd.prog 8 #[.int .i32 r, .int .u8 c] w fun e w' => e = .returned (.bool true) ∧ Below w.heap.size w w' := by
  have h1 : 0 < w.heap.size := World.block_lt_of_cell? w _ (hT.1 0 (by decide))
  have h2 : 1 < w.heap.size := World.block_lt_of_cell? w _ (hT.2 0 (by decide)).1
  have HT := Aside0.mk hT
  have hmask := u8_and127 hc1 hc2
  have hu36 := Tryd.underlying36
  clear hT
  go_enter Tryd.func8, Tryd.ntmps8
  go_wp2_with fail
  refine (new_any w).mono ?_
  rintro e w2 ⟨rfl, hD2, hb2, hs2⟩
  have HD2 := Aside0.mk hD2
  have HB2 := Aside0.mk hb2
  have HS2 := Aside0.mk hs2
  clear hD2 hb2 hs2
  go_wp2_with fail
  refine (put_any r w2 hr1 hr2).mono ?_
  obtain ⟨ys, hys⟩ : ∃ ys, putS r = ys := ⟨_, rfl⟩
  have HW := Aside0.mk (put_whole r).1
  have HBy := Aside0.mk (putS_bytes r)
  have hylen := putS_len r
  have HYS := Aside0.mk hys
  rw [hys] at HW HBy hylen ⊢
  clear hys
  obtain ⟨hy1, hy2⟩ := hylen
  rintro e w3 ⟨A3, c3, rfl, hR3, hb3⟩
  have hc3 : ys.length ≤ c3 := by
    obtain ⟨_, _, e, hle, _⟩ := Kd.R_reads hR3
    cases e
    exact hle
  have HR3 := Aside0.mk (Kd.R_bound hR3)
  have HD3 := Aside0.mk (HD2.out.below hb3)
  have HB3 := Aside0.mk (below_join HB2.out hb3)
  clear hR3 hb3 HD2
  have HF1 : Aside0 (feedS ⟨[], 0, []⟩ [c % 128] = ⟨[], 1, [(⟨runeOf [c % 128], 0, 1, false, false⟩ : Item)]⟩) := ⟨by
    have h := (feed_whole (l := [c % 128]) ⟨by omega, by omega⟩ 0 []).1
    simpa using h⟩
  go_wp2_with fail
  refine (feed_lit w.heap.size w.heap.size [] 0 (c % 128) (0, 0) w3 HD3.out trivial (by omega) (Utf8Tabs_below HT.out HB3.out) h1 h2 (by decide) (by decide)).mono ?_
  rw [HF1.out]
  rintro e w4 ⟨A4, c4, rfl, hl4, hR4, hD4, hB4, hK4⟩
  have HX4 := Aside0.mk (Kd.R_kept (Kd.R_mono HR3.out (fun k hk => hk.2.1)) hK4 (fun j hj (hh : j = _) => by have := HS2.out; have hj' : w2.heap.size ≤ j := hj; omega))
  have HD4 := Aside0.mk hD4
  have HB4 := Aside0.mk (HB3.out.trans hB4)
  clear hD4 hB4 hK4 hR4 HD3 HR3 HB2
  obtain ⟨gb, ob, rfl, _, _⟩ := int_cells (Kd.R_reads' HX4.out).2.2 (by omega)
  go_wp2
  go_loopw [7] (fun i W => ∃ k : Nat, i = .int .i64 k ∧ k ≤ ys.length ∧ Aside0 (k < ys.length → Rest W w.heap.size w.heap.size (ys.take k) 1 false) ∧ Aside0 ((Kd.int .u8).R 5 W w2.heap.size (fun k => w2.heap.size ≤ k) (.slice (some ⟨gb, ob, none⟩) ys.length c3) ys) ∧ Aside0 (Below w.heap.size w W)) (fun i _ => ys.length - (intOf i).toNat)
  case atStart => exact ⟨0, rfl, Nat.zero_le _, ⟨fun _ => by simpa using HD4.out⟩, HX4, HB4⟩
  case round =>
    obtain ⟨k, rfl, hkl, HR, HX, HB⟩ := hrel
    by_cases hlt : k < ys.length
    · have HFP := Aside0.mk (feed_part HW.out k hlt)
      by_cases hend : k + 1 < ys.length
      · go_wp2_with fail
        refine (feed_sl w.heap.size w.heap.size (ys.take k) 1 (some ⟨gb, ob + k, none⟩) [ys[k]] _ _ (HR.out hlt) (begun_take HW.out k hlt (fun b hb => (HBy.out b hb).1)) (fun b hb => by obtain rfl := List.mem_singleton.1 hb; exact (HBy.out _ (by simp)).1) (Utf8Tabs_below HT.out HB.out) h1 h2 (by decide) (by decide) (by simp) (fun W2 hK2 => C_one (Kd.R_reads' (Kd.R_kept HX.out hK2 (fun j hj (hh : j = _) => by have := HS2.out; have hj' : w2.heap.size ≤ j := hj; omega))).2.2 k hlt)).mono ?_
        rw [HFP.out, if_pos hend]
        rintro e w5 ⟨A5, c5, rfl, hl5, hR5, hD5, hB5, hK5⟩
        have HX5 := Aside0.mk (Kd.R_kept HX.out hK5 (fun j hj (hh : j = _) => by have := HS2.out; have hj' : w2.heap.size ≤ j := hj; omega))
        have HD5 := Aside0.mk hD5
        have HB5 := Aside0.mk (HB.out.trans hB5)
        have hc1 : decide ((k : Int) + 1 < ys.length) = true := decide_eq_true (by omega)
        have hc2 : ((k : Int) + 1 == ys.length) = false := beq_eq_false_iff_ne.2 (by omega)
        clear hD5 hB5 hK5 hR5 HR HX HB HFP
        go_wp2_with (go_at_call 18; refine (held_n w.heap.size w.heap.size (ys.take (k + 1)) 1 false (k + 1) _ ?k1 ?k2).mono ?_; (case k1 => rw [List.length_take]; omega); (case k2 => first | exact HD5.out | exact HD5.out.below (by repeat (first | (with_reducible assumption) | exact Below.refl _ _ | apply below_drew1 | apply pw_below_drewN | apply below_alloc))); rintro e w' ⟨rfl, rfl⟩)
        go_roundw
        case rel => exact ⟨k + 1, by go_num, by omega, ⟨fun _ => HD5.out.below (by repeat (first | (with_reducible assumption) | exact Below.refl _ _ | apply below_drew1 | apply pw_below_drewN | apply below_alloc))⟩, ⟨Kd.R_below HX5.out (by repeat (first | (with_reducible assumption) | exact Below.refl _ _ | apply below_drew1 | apply pw_below_drewN | apply below_alloc))⟩, ⟨by have := HB5.out; repeat (first | (with_reducible assumption) | exact Below.refl _ _ | apply below_drew1 | apply pw_below_drewN | apply below_alloc)⟩⟩
        case measure => simp [intOf]; omega
      · go_wp2_with fail
        refine (feed_sl w.heap.size w.heap.size (ys.take k) 1 (some ⟨gb, ob + k, none⟩) [ys[k]] _ _ (HR.out hlt) (begun_take HW.out k hlt (fun b hb => (HBy.out b hb).1)) (fun b hb => by obtain rfl := List.mem_singleton.1 hb; exact (HBy.out _ (by simp)).1) (Utf8Tabs_below HT.out HB.out) h1 h2 (by decide) (by decide) (by simp) (fun W2 hK2 => C_one (Kd.R_reads' (Kd.R_kept HX.out hK2 (fun j hj (hh : j = _) => by have := HS2.out; have hj' : w2.heap.size ≤ j := hj; omega))).2.2 k hlt)).mono ?_
        rw [HFP.out, if_neg hend]
        rintro e w5 ⟨A5, c5, rfl, hl5, hR5, hD5, hB5, hK5⟩
        have HX5 := Aside0.mk (Kd.R_kept HX.out hK5 (fun j hj (hh : j = _) => by have := HS2.out; have hj' : w2.heap.size ≤ j := hj; omega))
        have HD5 := Aside0.mk hD5
        have HB5 := Aside0.mk (HB.out.trans hB5)
        have hke : (k : Int) + 1 = ys.length := by omega
        have hc1 : decide ((k : Int) + 1 < ys.length) = false := decide_eq_false (by omega)
        have hc2 : ((k : Int) + 1 == ys.length) = true := beq_iff_eq.2 (by omega)
        have HI5 := Aside0.mk (Kd.R_reads' hR5).2.2
        clear hD5 hB5 hK5 hR5 HR HX HB HFP
        obtain ⟨gl, ol, rfl, _, _⟩ := item_cells HI5.out (by simp)
        obtain ⟨x0, x1, x2, x3, x4⟩ := item_at HI5.out 0 (by simp)
        simp only [List.getElem_cons_zero, Nat.zero_mul, Nat.add_zero] at x0 x1 x2 x3 x4
        go_wp2_with (go_at_call 18; refine (held_n w.heap.size w.heap.size [] (1 + ys.length) false 0 _ rfl ?k2).mono ?_; (case k2 => first | exact HD5.out | exact HD5.out.below (by repeat (first | (with_reducible assumption) | exact Below.refl _ _ | apply below_drew1 | apply pw_below_drewN | apply below_alloc))); rintro e w' ⟨rfl, rfl⟩)
        go_roundw
        case rel => exact ⟨k + 1, by go_num, by omega, ⟨fun hh => absurd hh (by omega)⟩, ⟨Kd.R_below HX5.out (by repeat (first | (with_reducible assumption) | exact Below.refl _ _ | apply below_drew1 | apply pw_below_drewN | apply below_alloc))⟩, ⟨by have := HB5.out; repeat (first | (with_reducible assumption) | exact Below.refl _ _ | apply below_drew1 | apply pw_below_drewN | apply below_alloc)⟩⟩
        case measure => simp [intOf]; omega
    · obtain ⟨m, hm⟩ : ∃ m, ys.length = m := ⟨_, rfl⟩
      have HCm := Aside0.mk (Kd.R_reads' HX.out).2.2
      have hB0 := HB.out
      clear HR HD4 HX4 HB4 HB3 HS2 HF1 HW HBy hmask hu36 hl4 hc1 hc2 HX HB
      rw [hm] at HCm hlt hkl hy1 hy2 hc3 ⊢
      clear hm
      have hd1 : decide (1 ≤ (m : Int)) = true := decide_eq_true (by omega)
      have hd2 : decide ((m : Int) ≤ 4) = true := decide_eq_true (by omega)
      go_wp2_with fail
      have hcv : ∀ p : Later wr, Sem.run Tryd.prog (Go.convert 22 9 (.slice (some ⟨gb, ob, none⟩) m c3)) p.wx = .ok (.string (strOfNums ys)) p.wx := fun p => Kd.C_string (P := Tryd.prog) Tryd.underlying22 Tryd.underlying5 Tryd.underlying9 (c := c3) (Kd.C_below HCm.out p.below)
      have HRP : Aside0 (∀ W, Calls Tryd.prog 14 #[.int .i32 r] W fun e w' => e = .returned (.string (strOfNums ys)) ∧ Below W.heap.size W w') := ⟨fun W => HYS.out ▸ rput_any r W⟩
      refine quiet_later (by kernel_rfl) (by kernel_rfl) ?_
      repeat (quiet_step (first | (go_at_call 9; exact calls_later _ (told_any _ (Utf8Tabs_below HT.out (below_join hB0 (Later.below _))))) | (go_at_call 14; exact calls_later _ (HRP.out _))))
      refine wpQuiet_nil ?_
      intro _ hw
      obtain ⟨⟨wq, hq⟩, rfl⟩ := hw
      go_wp2
      go_ret
      exact ⟨rfl, below_join hB0 hq⟩
end Go.Proofs.YtlopjkfhkfbhlaaDoor.Dec
