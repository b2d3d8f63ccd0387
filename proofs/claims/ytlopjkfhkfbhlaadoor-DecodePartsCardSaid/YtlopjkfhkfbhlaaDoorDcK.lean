import Derived.Test.YtlopjkfhkfbhlaaDoorDcJ
set_option linter.unusedVariables false
set_option linter.unusedSimpArgs false
namespace Go.Proofs.YtlopjkfhkfbhlaaDoor.Dec
open Go Go.RowKit Go.Proofs.YtlopjkfhkfbhlaaDoorW.PrintWords Go.Proofs.YtlopjkfhkfbhlaaDoorW.PrintLast Go.Proofs.YtlopjkfhkfbhlaaDoorW.PrintMore
/-- a row that is read, in a world where the blocks below are as they were -/
theorem C_move {α : Type} {d : Kd α} {w W : World} {A : Option Addr} {n : Nat} {xs : List α} (h : d.C w A n xs) (hK : ∀ x cs, d.K w x cs → d.K W x cs) (hb : ∀ k, k < w.heap.size → W.heap[k]? = w.heap[k]?) : d.C W A n xs :=
  ⟨h.1, h.2.1, fun hn => by
    obtain ⟨ad, e, hc⟩ := h.2.2 hn
    refine ⟨ad, e, fun j p hj => ?_⟩
    obtain ⟨c, hs, hr, hcell⟩ := hc j p hj
    refine ⟨c, hs, hK _ _ hr, fun i u hu => ?_⟩
    have h1 := hcell i u hu
    rw [World.cell?_of_block (hb _ (World.block_lt_of_cell? w _ h1))]
    exact h1⟩
theorem C_kept_int {k : IntKind} {w w1 : World} {A : Option Addr} {n : Nat} {xs : List Int} {S : Nat → Prop} (h : Kd.C (Kd.int k) w A n xs) (hb : Below w.heap.size w w1) (hS : ∀ j, S j → w.heap.size ≤ j) : ∀ W, Kept w1 W S → Kd.C (Kd.int k) W A n xs :=
  fun W hk => C_move h (fun _ _ h => h) (fun j hj => (hk.2 j (Nat.lt_of_lt_of_le hj hb.size) (fun hs => by have := hS j hs; omega)).trans (hb.block j hj))
def closeS (s : St) : St := if s.held = [] then s else tellS s true true
set_option maxHeartbeats 1000000 in
theorem close_any (B g : Nat) (held : List Int) (at_ : Int) (w : World)
    (hD : Rest w B g held at_ false) (hn : held.length ≤ 1000) (ha : 0 ≤ at_) (ha' : at_ ≤ 4611686018427387000) :
    Calls Tryd.prog 19 #[.pointer (some ⟨g, 0, none⟩)] w fun e w' => ∃ v, e = .returned v ∧
      kItem.R 36 w' B (fun k => w.heap.size ≤ k) v (closeS ⟨held, at_, []⟩).out ∧ Rest w' B g (closeS ⟨held, at_, []⟩).held (closeS ⟨held, at_, []⟩).at_ true ∧ Below B w w' ∧ Kept w w' (fun j => j = g) := by
  have HD := Aside0.mk hD
  obtain ⟨⟨A0, c0, hb, hR⟩, hge, hle, _⟩ := hD
  have hb2 := blk_put hb 2 (.bool true) rfl
  have c2 : w.cell? ⟨g, 2, none⟩ = some (.bool false) := (blk_cell hb 2).trans rfl
  have f2 := blk_frozen hb 2
  have d0 : (w.setCell ⟨g, 2, none⟩ (.bool true)).cell? ⟨g, 0, none⟩ = some (.slice A0 held.length c0) := (blk_cell hb2 0).trans rfl
  have HD2 : Aside0 (Rest (w.setCell ⟨g, 2, none⟩ (.bool true)) B g held at_ true) := ⟨IsDec.of hb2 (Kd.R_set hR hb (by decide) 2 _) hge (by simpa [World.setCell] using hle) (Kd.R_nil _ _ _ _ _)⟩
  have HB2 : Aside0 (Below B w (w.setCell ⟨g, 2, none⟩ (.bool true))) := ⟨(Below.refl _ _).setCell (show B ≤ (⟨g, 2, none⟩ : Addr).block from hge) _⟩
  have HK2 : Aside0 (Kept w (w.setCell ⟨g, 2, none⟩ (.bool true)) (fun j => j = g)) := ⟨(Kept.refl w (fun j => j = g)).setCell (p := ⟨g, 2, none⟩) (.inl rfl) _⟩
  clear hb hR hb2
  by_cases he : held = []
  · subst he
    have HS : Aside0 (closeS ⟨[], at_, []⟩ = ⟨[], at_, []⟩) := ⟨rfl⟩
    go_enter Tryd.func19, Tryd.ntmps19
    go_wp2_with (go_at_call 24; refine (taken_any B g nilS _ _ true _ _ HD2.out).mono ?_; rintro e w1 ⟨rfl, rfl⟩)
    go_ret
    rw [HS.out]
    exact ⟨_, rfl, HD2.out.items _ (fun k hk => by simp [Value.ownBlock] at hk), HD2.out.rest, HB2.out.setCell (show B ≤ (⟨g, 3, none⟩ : Addr).block from hge) _, HK2.out.setCell (p := ⟨g, 3, none⟩) (.inl rfl) _⟩
  · have HS : Aside0 (closeS ⟨held, at_, []⟩ = tellS ⟨held, at_, []⟩ true true) := ⟨by unfold closeS; rw [if_neg he]⟩
    have hpos : (0 : Int) < (held.length : Int) := by
      have : held.length ≠ 0 := by simpa using he
      omega
    clear he
    go_enter Tryd.func19, Tryd.ntmps19
    go_wp2_with (first | (go_at_call 25; refine (tell_any B g nilS held at_ true true true [] 65533 _ HD2.out hn ha (by omega) (by simp) (.inl ⟨rfl, rfl⟩)).mono ?_; rintro e w2 ⟨rfl, v3', hD3, hA3, hB3, hK3⟩; have HD3 := Aside0.mk hD3; have HA3 := Aside0.mk hA3; have HB3 := Aside0.mk hB3; have HK3 := Aside0.mk hK3; clear hD3 hA3 hB3 hK3) | (go_at_call 24; refine (taken_any B g v3' _ _ true _ _ HD3.out).mono ?_; rintro e w1 ⟨rfl, rfl⟩))
    go_ret
    rw [HS.out]
    refine ⟨_, rfl, HD3.out.items _ (fun k hk => ?_), HD3.out.rest, (HB2.out.trans HB3.out).setCell (show B ≤ (⟨g, 3, none⟩ : Addr).block from hge) _, (HK2.out.then_ (HK3.out.mono mayNil) (fun _ h => .inl h)).setCell (p := ⟨g, 3, none⟩) (.inl rfl) _⟩
    rcases HA3.out with h | ⟨b, h, h'⟩
    · rw [h] at hk
      simp [Value.ownBlock] at hk
    · rw [h] at hk
      injection hk with hk
      simp [World.setCell] at h'
      omega
theorem held_any (B g : Nat) (held : List Int) (at_ : Int) (cl : Bool) (w : World) (hD : Rest w B g held at_ cl) :
    Calls Tryd.prog 18 #[.pointer (some ⟨g, 0, none⟩)] w fun e w' => e = .returned (.int .i64 held.length) ∧ w = w' := by
  obtain ⟨⟨A0, c0, hb, hR⟩, hge, hle, _⟩ := hD
  have d0 : w.cell? ⟨g, 0, none⟩ = some (.slice A0 held.length c0) := (blk_cell hb 0).trans rfl
  clear hb hR
  go_enter Tryd.func18, Tryd.ntmps18
  go_wp2
  go_ret
  exact ⟨rfl, rfl⟩
theorem held_nil (w : World) : Calls Tryd.prog 18 #[.pointer none] w fun e w' => e = .returned (.int .i64 0) ∧ w = w' := by
  go_enter Tryd.func18, Tryd.ntmps18
  go_wp2
  go_ret
  exact ⟨rfl, rfl⟩
theorem close_nil (w : World) : Calls Tryd.prog 19 #[.pointer none] w fun e w' => e = .returned nilS ∧ w = w' := by
  go_enter Tryd.func19, Tryd.ntmps19
  go_wp2
  go_ret
  exact ⟨rfl, rfl⟩
theorem feed_nil (v : Value) (w : World) : Calls Tryd.prog 16 #[.pointer none, v] w fun e w' => e = .returned nilS ∧ w = w' := by
  go_enter Tryd.func16, Tryd.ntmps16
  go_wp2
  go_ret
  exact ⟨rfl, rfl⟩
theorem close_closed (B g : Nat) (held : List Int) (at_ : Int) (w : World) (hD : Rest w B g held at_ true) :
    Calls Tryd.prog 19 #[.pointer (some ⟨g, 0, none⟩)] w fun e w' => e = .returned nilS ∧ w = w' := by
  obtain ⟨⟨A0, c0, hb, hR⟩, hge, hle, _⟩ := hD
  have c2 : w.cell? ⟨g, 2, none⟩ = some (.bool true) := (blk_cell hb 2).trans rfl
  clear hb hR
  go_enter Tryd.func19, Tryd.ntmps19
  go_wp2
  go_ret
  exact ⟨rfl, rfl⟩
theorem feed_closed (B g : Nat) (held : List Int) (at_ : Int) (v : Value) (w : World) (hD : Rest w B g held at_ true) :
    Calls Tryd.prog 16 #[.pointer (some ⟨g, 0, none⟩), v] w fun e w' => e = .returned nilS ∧ w = w' := by
  obtain ⟨⟨A0, c0, hb, hR⟩, hge, hle, _⟩ := hD
  have c2 : w.cell? ⟨g, 2, none⟩ = some (.bool true) := (blk_cell hb 2).trans rfl
  clear hb hR
  go_enter Tryd.func16, Tryd.ntmps16
  go_wp2
  go_ret
  exact ⟨rfl, rfl⟩
theorem new_any (w : World) : Calls Tryd.prog 15 #[] w fun e w' => e = .returned (.pointer (some ⟨w.heap.size, 0, none⟩)) ∧ Rest w' w.heap.size w.heap.size [] 0 false ∧ Below w.heap.size w w' ∧ w'.heap.size = w.heap.size + 1 := by
  go_enter Tryd.func15, Tryd.ntmps15
  go_wp2
  go_ret
  exact ⟨rfl, IsDec.of (A := none) (c := 0) (blk_new w _) (Kd.R_nil _ _ _ _ _) (Nat.le_refl _) (by simp) (Kd.R_nil _ _ _ _ _), below_alloc (Below.refl _ _) _, by simp⟩
theorem close_sl (B g : Nat) (held : List Int) (at_ : Int) (w : World)
    (hD : Rest w B g held at_ false) (hn : held.length ≤ 1000) (ha : 0 ≤ at_) (ha' : at_ ≤ 4611686018427387000) :
    Calls Tryd.prog 19 #[.pointer (some ⟨g, 0, none⟩)] w fun e w' => ∃ A2 m2, e = .returned (.slice A2 (closeS ⟨held, at_, []⟩).out.length m2) ∧ (closeS ⟨held, at_, []⟩).out.length ≤ m2 ∧
      kItem.R 36 w' B (fun k => w.heap.size ≤ k) (.slice A2 (closeS ⟨held, at_, []⟩).out.length m2) (closeS ⟨held, at_, []⟩).out ∧ Rest w' B g (closeS ⟨held, at_, []⟩).held (closeS ⟨held, at_, []⟩).at_ true ∧ Below B w w' ∧ Kept w w' (fun j => j = g) := by
  refine (close_any B g held at_ w hD hn ha ha').mono ?_
  rintro e w' ⟨v, rfl, hR, h2⟩
  obtain ⟨A2, m2, rfl, hl, _⟩ := Kd.R_reads hR
  exact ⟨A2, m2, rfl, hl, hR, h2⟩
theorem feed_sl (B g : Nat) (held : List Int) (at_ : Int) (A : Option Addr) (bs : List Int) (c : Nat) (w : World)
    (hD : Rest w B g held at_ false) (hn : Begun held) (hk : ∀ b ∈ bs, 0 ≤ b) (hT : Tabs w) (hB1' : 0 < B) (hB2' : 1 < B) (ha : 0 ≤ at_) (ha' : at_ ≤ 1000000000) (hl : bs.length ≤ 1000000)
    (hC : ∀ W, Kept w W (fun j => j = g) → Kd.C (Kd.int .u8) W A bs.length bs) :
    Calls Tryd.prog 16 #[.pointer (some ⟨g, 0, none⟩), .slice A bs.length c] w fun e w' => ∃ A2 m2, e = .returned (.slice A2 (feedS ⟨held, at_, []⟩ bs).out.length m2) ∧ (feedS ⟨held, at_, []⟩ bs).out.length ≤ m2 ∧
      kItem.R 36 w' B (fun k => w.heap.size ≤ k) (.slice A2 (feedS ⟨held, at_, []⟩ bs).out.length m2) (feedS ⟨held, at_, []⟩ bs).out ∧ Rest w' B g (feedS ⟨held, at_, []⟩ bs).held (feedS ⟨held, at_, []⟩ bs).at_ false ∧ Below B w w' ∧ Kept w w' (fun j => j = g) := by
  refine (feed_any B g held at_ A bs c w hD hn hk hT hB1' hB2' ha ha' hl hC).mono ?_
  rintro e w' ⟨v, rfl, hR, h2⟩
  obtain ⟨A2, m2, rfl, hl, _⟩ := Kd.R_reads hR
  exact ⟨A2, m2, rfl, hl, hR, h2⟩
def allS (bs : List Int) : List Item := (feedS ⟨[], 0, []⟩ bs).out ++ (closeS ⟨(feedS ⟨[], 0, []⟩ bs).held, (feedS ⟨[], 0, []⟩ bs).at_, []⟩).out
theorem allS_bound (bs : List Int) (hl : bs.length ≤ 1000000) : ((feedS ⟨[], 0, []⟩ bs).out.length + (closeS ⟨(feedS ⟨[], 0, []⟩ bs).held, (feedS ⟨[], 0, []⟩ bs).at_, []⟩).out.length) * 32 ≤ 140737488355328 := by
  have h1 := (feedS_size bs ⟨[], 0, []⟩).2
  have h2 : (closeS ⟨(feedS ⟨[], 0, []⟩ bs).held, (feedS ⟨[], 0, []⟩ bs).at_, []⟩).out.length ≤ 1 := by
    unfold closeS
    split <;> simp [tellS]
  dsimp only [List.length_nil] at h1
  omega
theorem below_step' {w w1 w2 : World} (h : Below w.heap.size w w1) (k : Below w.heap.size w1 w2) : Below w.heap.size w w2 := h.trans k
set_option maxHeartbeats 1000000 in
theorem all_any (A : Option Addr) (bs : List Int) (c : Nat) (w : World) (hC : Kd.C (Kd.int .u8) w A bs.length bs) (hk : ∀ b ∈ bs, 0 ≤ b) (hT : Tabs w) (hl : bs.length ≤ 1000000) :
    Calls Tryd.prog 11 #[.slice A bs.length c] w fun e w' => ∃ v, e = .returned v ∧ kItem.R 36 w' w.heap.size (fun _ => True) v (allS bs) ∧ Below w.heap.size w w' := by
  have h1 : 0 < w.heap.size := World.block_lt_of_cell? w _ (hT.1 0 (by decide))
  have h2 : 1 < w.heap.size := World.block_lt_of_cell? w _ (hT.2 0 (by decide)).1
  have HC := Aside0.mk hC
  have HT := Aside0.mk hT
  have HK := Aside0.mk hk
  clear hC hT hk
  go_enter Tryd.func11, Tryd.ntmps11
  go_wp2_with (first | (go_at_call 15; refine (new_any w).mono ?_; rintro e w1 ⟨rfl, hD, hB, hS⟩; have HD := Aside0.mk hD; have HB := Aside0.mk hB; have HS := Aside0.mk hS; clear hD hB hS) | (go_at_call 16; refine (feed_sl w.heap.size w.heap.size [] 0 A bs c _ HD.out trivial HK.out (Utf8Tabs_below HT.out HB.out) h1 h2 (by decide) (by decide) hl ?fC).mono ?_; (case fC => exact C_kept_int HC.out HB.out (fun j hj => by omega)); rintro e w2 ⟨A1, m1, rfl, hl1, hR1, hD1, hB1, hK1⟩; have HR1 := Aside0.mk hR1; have HD1 := Aside0.mk hD1; have HB1 := Aside0.mk hB1; have HK1 := Aside0.mk hK1; clear hR1 hD1 hB1 hK1) | (go_at_call 19; (refine (close_sl w.heap.size w.heap.size _ _ _ HD1.out ?k1 ?k2 ?k3).mono ?_; (case k1 => exact Nat.le_trans (feedS_begun bs ⟨[], 0, []⟩ trivial HK.out).len (by decide)); (case k2 => exact feedS_at bs ⟨[], 0, []⟩); (case k3 => have h1 := feedS_size bs ⟨[], 0, []⟩; simp at h1; omega); rintro e w3 ⟨A2, m2, rfl, hl2, hR2, hD2, hB2, hK2⟩; have HB2 := Aside0.mk (HB1.out.trans hB2); have HR1' := Aside0.mk (Kd.R_mono (Kd.R_kept HR1.out hK2 (fun k hk (hh : k = _) => by have := HS.out; have hk' : w1.heap.size ≤ k := hk; omega)) (fun _ _ => trivial)); have HC2 := Aside0.mk (Kd.R_reads' hR2).2.2; clear hR2 hD2 hB2 hK2)) | ((with_reducible refine gate_builtin (b := .append) (xs := #[.tmp 7, .tmp 9]) rfl ?_); refine Kd.R_append_rows (kItem) (Rr := (kItem).K _) _ ?hg (.tmp 7) (.tmp 9) 25 36 (.agg #[(.int .i32 0), (.int .i64 0), (.int .i64 0), (.bool false), (.bool false)]) _ rfl ?ht info_item ?hz ?hs0 ?hb0 (_) (_) (_) (_) (_) (_) (fun _ => True) (fun _ => False) rfl rfl (HR1'.out) (HC2.out) ((fun _ _ h => by rw [kItem_open h]; exact kItem_mkM _ _ _ _)) (fun _ h => h.elim) (fun _ _ => trivial) (HB2.out) (Nat.le_trans HB.out.size HB2.out.size) ?hl ?_; (case hg => rfl); (case ht => exact Tryd.underlying25); (case hz => rfl); (case hs0 => decide); (case hb0 => decide); (case hl => (have h7 := allS_bound bs hl; omega)); intro v4 w_v4 hv4 hb_v4 hg_v4 hn_v4))
  go_ret
  exact ⟨_, rfl, hv4, below_step' HB.out hb_v4⟩
end Go.Proofs.YtlopjkfhkfbhlaaDoor.Dec
