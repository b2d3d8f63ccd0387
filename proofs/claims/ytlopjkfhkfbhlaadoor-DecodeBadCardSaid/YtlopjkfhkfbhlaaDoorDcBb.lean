import Derived.Test.YtlopjkfhkfbhlaaDoorDcBa
set_option linter.unusedVariables false
set_option linter.unusedSimpArgs false
namespace Go.Proofs.YtlopjkfhkfbhlaaDoor.Dec
open Go Go.RowKit Go.Proofs.YtlopjkfhkfbhlaaDoorW.PrintWords Go.Proofs.YtlopjkfhkfbhlaaDoorW.PrintLast Go.Proofs.YtlopjkfhkfbhlaaDoorW.PrintMore
theorem blk_at {W : World} {o : Obj} {g : Nat} (h : W.heap.size = g) : (W.alloc o).heap[g]? = some o := h ▸ blk_new W o
def strOf (i : Nat) : ByteArray := strOfNums (badS.getD i [])
set_option maxHeartbeats 4000000 in
set_option maxRecDepth 100000 in
theorem bad_any (x : Int) (A : Option Addr) (bs : List Int) (c : Nat) (w : World) (hx0 : -9223372036854775808 ≤ x) (hx1 : x < 9223372036854775808) (hC : Kd.C (Kd.int .u8) w A bs.length bs) (hk : ∀ b ∈ bs, 0 ≤ b ∧ b < 256) (hT : Tabs w) (hl : bs.length ≤ 9223372036854775807) :
    Calls Tryd.prog 7 #[.int .i64 x, .slice A bs.length c] w fun e w' => e = .returned (.bool true) ∧ Below w.heap.size w w' := by
  have HC := Aside0.mk hC
  have HT := Aside0.mk hT
  have HK := Aside0.mk hk
  have hu36 := Tryd.underlying36
  clear hC hT hk
  obtain ⟨i, hi, he⟩ : ∃ i : Nat, i < 14 ∧ wrap64 ((IntKind.u64.wrap x).tmod 14) = (i : Int) := by
    have h0 : 0 ≤ IntKind.u64.wrap x := by rw [IntKind.wrap_u64]; omega
    have h1 : (IntKind.u64.wrap x).tmod 14 = (IntKind.u64.wrap x) % 14 := Int.tmod_eq_emod_of_nonneg h0
    refine ⟨((IntKind.u64.wrap x) % 14).toNat, by omega, ?_⟩
    rw [h1]
    unfold wrap64
    omega
  have HI : (i : Int) < 14 := by omega
  by_cases h100 : bs.length ≤ 100
  · go_enter Tryd.func7, Tryd.ntmps7
    go_upto_region 4 with (fail)
    go_cut [5, 6, 7, 8] (fun v5 v6 v7 v8 W => ∃ g5 g6 g7 : Nat, v5 = .slice (some ⟨g5, 0, none⟩) 14 14 ∧ v6 = .slice (some ⟨g6, 0, none⟩) 14 14 ∧ v7 = .slice (some ⟨g7, 0, none⟩) 14 14 ∧ v8 = .int .i64 i ∧ Aside0 (W.cell? ⟨g5, i, none⟩ = some (.string (strOf i)) ∧ W.cell? ⟨g6, i, none⟩ = some (.int .i64 (badN.getD i 0)) ∧ W.cell? ⟨g7, i, none⟩ = some (.bool (badM.getD i false)) ∧ Below w.heap.size w W))
    case first =>
      go_wp2
      go_meet
      case rel =>
        have hi14 : i = 0 ∨ i = 1 ∨ i = 2 ∨ i = 3 ∨ i = 4 ∨ i = 5 ∨ i = 6 ∨ i = 7 ∨ i = 8 ∨ i = 9 ∨ i = 10 ∨ i = 11 ∨ i = 12 ∨ i = 13 := by omega
        refine ⟨_, _, _, rfl, rfl, rfl, by rw [he], ⟨(blk_cell (blk_alloc (blk_alloc (blk_new w _) _) _) i).trans ?_, (blk_cell (blk_alloc (blk_at (by simp)) _) i).trans ?_, (blk_cell (blk_at (by simp)) i).trans ?_, by repeat (first | (with_reducible assumption) | exact Below.refl _ _ | apply below_drew1 | apply pw_below_drewN | apply below_alloc)⟩⟩
        · rcases hi14 with rfl | rfl | rfl | rfl | rfl | rfl | rfl | rfl | rfl | rfl | rfl | rfl | rfl | rfl <;> rfl
        · rcases hi14 with rfl | rfl | rfl | rfl | rfl | rfl | rfl | rfl | rfl | rfl | rfl | rfl | rfl | rfl <;> rfl
        · rcases hi14 with rfl | rfl | rfl | rfl | rfl | rfl | rfl | rfl | rfl | rfl | rfl | rfl | rfl | rfl <;> rfl
    case rest =>
      obtain ⟨g5, g6, g7, rfl, rfl, rfl, rfl, HF⟩ := hcut
      obtain ⟨hc5, hc6, hc7, hbc⟩ := HF.out
      clear HF he
      have HBT := bad_all i hi
      obtain ⟨s0, hs0⟩ : ∃ s0, strOf i = s0 := ⟨_, rfl⟩
      obtain ⟨nn, hnn⟩ : ∃ nn, badN.getD i 0 = nn := ⟨_, rfl⟩
      obtain ⟨mm, hmm⟩ : ∃ mm, badM.getD i false = mm := ⟨_, rfl⟩
      obtain ⟨str, hstr⟩ : ∃ str, s0 ++ ({ data := #[97] } : ByteArray) = str := ⟨_, rfl⟩
      have hsz : s0.size ≤ 3 ∧ (bytesOf str).length = s0.size + 1 ∧ bytesOf str = badS.getD i [] ++ [97] ∧ (s0.size : Int) = (badS.getD i []).length := by
        subst hstr hs0
        clear hc5 hc6 hc7 HBT hnn hmm
        refine forall14 (p := fun i => (strOf i).size ≤ 3 ∧ (bytesOf (strOf i ++ ({ data := #[97] } : ByteArray))).length = (strOf i).size + 1 ∧ bytesOf (strOf i ++ ({ data := #[97] } : ByteArray)) = badS.getD i [] ++ [97] ∧ ((strOf i).size : Int) = (badS.getD i []).length) ?_ ?_ ?_ ?_ ?_ ?_ ?_ ?_ ?_ ?_ ?_ ?_ ?_ ?_ i hi <;> exact ⟨by decide, by decide, by decide, by decide⟩
      obtain ⟨hs1, hs2, hs3, hs4⟩ := hsz
      rw [hs0] at hc5
      rw [hnn] at hc6 HBT
      rw [hmm] at hc7 HBT
      have hs5 : str.size = s0.size + 1 := by rw [← bytesOf_length]; exact hs2
      have hpre : (feedS ⟨[], 0, []⟩ (badS.getD i [] ++ [97])).out <+: allS (bytesOf str ++ bs) := by
        rw [← hs3]
        exact allS_pre _ _
      have HAL := Aside0.mk (HBT.pre hpre)
      clear hpre
      have HBY : Aside0 (∀ b ∈ bytesOf str ++ bs, 0 ≤ b) := ⟨fun b hb => by
        rcases List.mem_append.1 hb with h | h
        · obtain ⟨u, _, rfl⟩ := List.mem_map.1 h
          omega
        · exact (HK.out b h).1⟩
      rw [← hs4] at HAL
      obtain ⟨row, hrow⟩ : ∃ row, bytesOf str ++ bs = row := ⟨_, rfl⟩
      rw [hrow] at HAL HBY
      have HLL : Aside0 (row.length ≤ 1000000) := ⟨by rw [← hrow, List.length_append, bytesOf_length, hs5]; omega⟩
      have HROW := Aside0.mk hrow
      have HS5 := Aside0.mk hs5
      have HBC := Aside0.mk hbc
      have HC6 := Aside0.mk hc6
      have HC7 := Aside0.mk hc7
      have HC5 := Aside0.mk hc5
      have kb := fun W => print_bytes (P := Tryd.prog) 9 22 5 Tryd.underlying9 Tryd.underlying22 Tryd.underlying5 str W
      clear hs0 hnn hmm HBT hrow hs2 hs3 hs4 hs5 hbc hc6 hc7
      go_wp2_with ((with_reducible refine gate_builtin (b := .append) (xs := #[.tmp 29, .tmp 30]) rfl ?_); obtain ⟨A1, c1, w1, hr1, hC1, hb1⟩ := run_append_bytes wc str A bs c 22 (Kd.C_below HC.out HBC.out) (by have := HS5.out; omega) (by have := HS5.out; omega); rw [HROW.out] at hr1 hC1; refine wpl_append_run rfl (.tmp 29) (.tmp 30) 22 rfl _ _ rfl rfl hr1 ?_; have HC1 := Aside0.mk hC1; have HB1 := Aside0.mk hb1; clear hr1 hC1 hb1)
      trace "A"
      refine (all_sl A1 row c1 _ HC1.out HBY.out (Utf8Tabs_below HT.out (below_join HBC.out HB1.out)) HLL.out).mono ?_
      obtain ⟨xs, hxs⟩ : ∃ xs, allS row = xs := ⟨_, rfl⟩
      rw [hxs] at HAL ⊢
      clear hxs
      rintro e w2 ⟨A2, c2, rfl, hl2, hR2, hb2⟩
      have HX := Aside0.mk (Kd.R_reads' hR2).2.2
      have HB2 := Aside0.mk (below_join (below_join HBC.out HB1.out) hb2)
      have HCB := Aside0.mk (below_join HB1.out hb2)
      clear hR2 hb2
      obtain ⟨y, r, hxs, hor⟩ := HAL.out
      have hx0 : xs[0]? = some (⟨65533, 0, nn, true, mm⟩ : Item) := by rw [hxs]; rfl
      have hx1 : xs[1]? = some y := by rw [hxs]; rfl
      have hxl : 1 < xs.length := by rw [hxs]; simp
      obtain ⟨gx, ox, rfl, hgx, hitem⟩ := item_cells HX.out (by omega)
      have p5 : ∀ p : Later w2, p.wx.cell? ⟨g5, i, none⟩ = some (.string s0) := fun p => cell_later p.below (cell_later HCB.out HC5.out)
      have p6 : ∀ p : Later w2, p.wx.cell? ⟨g6, i, none⟩ = some (.int .i64 nn) := fun p => cell_later p.below (cell_later HCB.out HC6.out)
      have p7 : ∀ p : Later w2, p.wx.cell? ⟨g7, i, none⟩ = some (.bool mm) := fun p => cell_later p.below (cell_later HCB.out HC7.out)
      obtain ⟨yr, yf, yt, yb, ym⟩ := y
      obtain ⟨a0, a1, a2, a3, a4⟩ := hitem 0 _ hx0
      obtain ⟨b0, b1, b2, b3, b4⟩ := hitem 1 _ hx1
      simp only [Nat.zero_mul, Nat.add_zero, Nat.one_mul] at a0 a1 a2 a3 a4 b0 b1 b2 b3 b4
      have q0 : ∀ p : Later w2, p.wx.cell? ⟨gx, ox, none⟩ = _ := fun p => cell_later p.below a0
      have q1 : ∀ p : Later w2, p.wx.cell? ⟨gx, ox + 1, none⟩ = _ := fun p => cell_later p.below a1
      have q2 : ∀ p : Later w2, p.wx.cell? ⟨gx, ox + 2, none⟩ = _ := fun p => cell_later p.below a2
      have q3 : ∀ p : Later w2, p.wx.cell? ⟨gx, ox + 3, none⟩ = _ := fun p => cell_later p.below a3
      have q4 : ∀ p : Later w2, p.wx.cell? ⟨gx, ox + 4, none⟩ = _ := fun p => cell_later p.below a4
      have r0 : ∀ p : Later w2, p.wx.cell? ⟨gx, ox + 5, none⟩ = _ := fun p => cell_later p.below b0
      have r3 : ∀ p : Later w2, p.wx.cell? ⟨gx, ox + 5 + 3, none⟩ = _ := fun p => cell_later p.below b3
      clear a0 a1 a2 a3 a4 b0 b1 b2 b3 b4 hx0 hx1 hxs hitem hc5
      obtain ⟨ln, hln⟩ : ∃ ln, xs.length = ln := ⟨_, rfl⟩
      rw [hln] at hxl hl2 ⊢
      have hln0 : 0 < ln := by omega
      have hxl2 : (1 : Int) < (ln : Int) := by omega
      have hd1 : decide ((1 : Int) < (ln : Int)) = true := decide_eq_true (by omega)
      clear hln HX HAL HC5 HC6 HC7 HS5 kb hstr
      by_cases h97 : yr = 97
      · subst h97
        clear hor
        go_wp2_with fail
        have hund : undef = Value.tuple #[] := rfl
        refine quiet_later (by kernel_rfl) (by kernel_rfl) ?_
        (repeat ((with_reducible refine wpQuiet_step (fun K hK => ?_)); go_simp; first | ((with_reducible refine hK _ ?_); clear hK K) | (apply Exists.intro; refine ⟨fun _ => ?_, hK _ ?_⟩; ((go_at_call 9; exact calls_later _ (told_any _ (Utf8Tabs_below HT.out (below_join HB2.out (Later.below _)))))); clear hK K)))
        refine wpQuiet_nil ?_
        intro _ hw
        obtain ⟨⟨wq, hq⟩, rfl⟩ := hw
        go_wp2
        go_ret
        exact ⟨rfl, below_join HB2.out hq⟩
      · have hor2 : nn < (s0.size : Int) ∧ yb = true := by
          rcases hor with h | h
          · exact absurd h h97
          · exact h
        obtain ⟨hd2', rfl⟩ := hor2
        have hd2 : decide (nn < (s0.size : Int)) = true := decide_eq_true hd2'
        have hd3 : (yr == 97) = false := beq_eq_false_iff_ne.2 h97
        clear hor h97
        go_wp2_with fail
        have hund : undef = Value.tuple #[] := rfl
        refine quiet_later (by kernel_rfl) (by kernel_rfl) ?_
        (repeat ((with_reducible refine wpQuiet_step (fun K hK => ?_)); go_simp; first | ((with_reducible refine hK _ ?_); clear hK K) | (apply Exists.intro; refine ⟨fun _ => ?_, hK _ ?_⟩; ((go_at_call 9; exact calls_later _ (told_any _ (Utf8Tabs_below HT.out (below_join HB2.out (Later.below _)))))); clear hK K)))
        refine wpQuiet_nil ?_
        intro _ hw
        obtain ⟨⟨wq, hq⟩, rfl⟩ := hw
        go_wp2
        go_ret
        exact ⟨rfl, below_join HB2.out hq⟩
  · go_enter Tryd.func7, Tryd.ntmps7
    go_wp2_with fail
    refine (told_any _ (Utf8Tabs_below HT.out (by repeat (first | (with_reducible assumption) | exact Below.refl _ _ | apply below_drew1 | apply pw_below_drewN | apply below_alloc)))).mono ?_
    rintro e w1 ⟨rfl, hb1⟩
    go_wp2_with fail
    go_ret
    exact ⟨rfl, by have := below_join (w := w) (by repeat (first | (with_reducible assumption) | exact Below.refl _ _ | apply below_drew1 | apply pw_below_drewN | apply below_alloc)) hb1; exact this⟩
end Go.Proofs.YtlopjkfhkfbhlaaDoor.Dec
