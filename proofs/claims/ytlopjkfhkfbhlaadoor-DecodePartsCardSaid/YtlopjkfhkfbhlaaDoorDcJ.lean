import Derived.Test.YtlopjkfhkfbhlaaDoorDcI
set_option linter.unusedVariables false
set_option linter.unusedSimpArgs false
namespace Go.Proofs.YtlopjkfhkfbhlaaDoor.Dec
open Go Go.RowKit Go.Proofs.YtlopjkfhkfbhlaaDoorW.PrintWords Go.Proofs.YtlopjkfhkfbhlaaDoorW.PrintLast Go.Proofs.YtlopjkfhkfbhlaaDoorW.PrintMore
abbrev nilS : Value := .slice none 0 0
theorem mayNil {g : Nat} : ∀ k, MayDec g nilS k → k = g := fun k h => h.elim id (fun h => by simp [Value.ownBlock] at h)
def feedS (s : St) (bs : List Int) : St := bs.foldl takeS s
theorem feedS_snoc (s : St) (bs : List Int) (b : Int) : feedS s (bs ++ [b]) = takeS (feedS s bs) b := by simp [feedS]
theorem moreS_size {s s' : St} {c : Int} (h : moreS s c = some s') : s'.at_ + s'.held.length = s.at_ + s.held.length + 1 ∧ s'.out.length ≤ s.out.length + 1 := by
  unfold moreS at h
  split at h
  · split at h
    · cases h
      simp [tellS]; omega
    · cases h
      simp; omega
  · cases h
theorem takeS_size (s : St) (c : Int) : (takeS s c).at_ + (takeS s c).held.length = s.at_ + s.held.length + 1 ∧ (takeS s c).out.length ≤ s.out.length + 2 := by
  unfold takeS
  cases hm : moreS s c with
  | some s' =>
    have := moreS_size hm
    dsimp only
    exact ⟨this.1, by omega⟩
  | none =>
    dsimp only
    split
    · rename_i h
      simp [tellS, h]
    · unfold takeNil
      cases hm2 : moreS (tellS s true true) c with
      | some s' =>
        have := moreS_size hm2
        simp [tellS] at this ⊢
        omega
      | none =>
        simp [tellS]
theorem feedS_size (bs : List Int) : ∀ s : St, (feedS s bs).at_ + (feedS s bs).held.length = s.at_ + s.held.length + bs.length ∧ (feedS s bs).out.length ≤ s.out.length + 2 * bs.length := by
  induction bs with
  | nil => intro s; simp [feedS]
  | cons b r ih =>
    intro s
    have h1 := ih (takeS s b)
    have h2 := takeS_size s b
    simp only [feedS, List.foldl_cons, List.length_cons] at *
    omega
theorem moreS_at {s s' : St} {c : Int} (h : moreS s c = some s') : s.at_ ≤ s'.at_ := by
  unfold moreS at h
  split at h
  · split at h
    · cases h
      simp [tellS]
      omega
    · cases h
      simp
  · cases h
theorem takeS_at (s : St) (c : Int) : s.at_ ≤ (takeS s c).at_ := by
  unfold takeS
  cases hm : moreS s c with
  | some s' => exact moreS_at hm
  | none =>
    dsimp only
    split
    · simp [tellS]
      omega
    · unfold takeNil
      cases hm2 : moreS (tellS s true true) c with
      | some s' =>
        have := moreS_at hm2
        simp [tellS] at this ⊢
        omega
      | none =>
        simp [tellS]
        omega
theorem feedS_at (bs : List Int) : ∀ s : St, s.at_ ≤ (feedS s bs).at_ := by
  induction bs with
  | nil => intro s; simp [feedS]
  | cons b r ih =>
    intro s
    exact Int.le_trans (takeS_at s b) (ih _)
theorem feedS_bounds (held : List Int) (at_ : Int) (bs : List Int) (k : Nat) (hn : Begun held) (ha : 0 ≤ at_) (ha' : at_ ≤ 1000000000) (hl : bs.length ≤ 1000000) :
    0 ≤ (feedS ⟨held, at_, []⟩ (bs.take k)).at_ ∧ (feedS ⟨held, at_, []⟩ (bs.take k)).at_ ≤ 4611686018427387000 ∧ (feedS ⟨held, at_, []⟩ (bs.take k)).out.length ≤ 999999999 := by
  have h1 := feedS_size (bs.take k) ⟨held, at_, []⟩
  have h2 := feedS_at (bs.take k) ⟨held, at_, []⟩
  have h3 := hn.len
  have h4 : (bs.take k).length ≤ bs.length := by simp; omega
  dsimp only [List.length_nil] at h1 h2
  omega
theorem feedS_begun (bs : List Int) : ∀ s : St, Begun s.held → (∀ b ∈ bs, 0 ≤ b) → Begun (feedS s bs).held := by
  induction bs with
  | nil => intro s h _; exact h
  | cons b r ih =>
    intro s h h0
    exact ih _ (takeS_begun h (h0 b (by simp))) (fun x hx => h0 x (by simp [hx]))
/-- the decoder between two calls: nothing waits to be handed out -/
abbrev Rest (w : World) (B g : Nat) (held : List Int) (at_ : Int) (cl : Bool) : Prop := IsDec w B g held at_ cl nilS []
set_option maxHeartbeats 400000 in
theorem taken_any (B g : Nat) (v3 : Value) (held : List Int) (at_ : Int) (cl : Bool) (out : List Item) (w : World) (hD : IsDec w B g held at_ cl v3 out) :
    Calls Tryd.prog 24 #[.pointer (some ⟨g, 0, none⟩)] w fun e w' => e = .returned v3 ∧ w' = w.setCell ⟨g, 3, none⟩ nilS := by
  obtain ⟨⟨A, c, hb, hR⟩, hge, hle, hR3⟩ := hD
  obtain ⟨A3, c3, rfl⟩ := Kd.R_slice hR3
  have c3' : w.cell? ⟨g, 3, none⟩ = some (.slice A3 out.length c3) := (blk_cell hb 3).trans rfl
  have f3 := blk_frozen hb 3
  clear hb hR hR3
  go_enter Tryd.func24, Tryd.ntmps24
  go_wp2
  go_ret
  exact ⟨rfl, rfl⟩
theorem IsDec.rest {w : World} {B g : Nat} {held : List Int} {at_ : Int} {cl : Bool} {v3 : Value} {out : List Item} (h : IsDec w B g held at_ cl v3 out) : Rest (w.setCell ⟨g, 3, none⟩ nilS) B g held at_ cl := by
  obtain ⟨⟨A, c, h0, h1⟩, h2, h3, h4⟩ := h
  exact ⟨⟨A, c, blk_put h0 3 _ rfl, Kd.R_set h1 h0 (by decide) 3 _⟩, h2, by simpa [World.setCell] using h3, Kd.R_nil _ _ _ _ _⟩
theorem IsDec.items {w : World} {B g : Nat} {held : List Int} {at_ : Int} {cl : Bool} {v3 : Value} {out : List Item} (h : IsDec w B g held at_ cl v3 out) (S : Nat → Prop) (hS : ∀ k, v3.ownBlock = some k → S k) :
    kItem.R 36 (w.setCell ⟨g, 3, none⟩ nilS) B S v3 out := by
  obtain ⟨⟨A, c, h0, h1⟩, h2, h3, h4⟩ := h
  obtain ⟨_, inner, ho, hr⟩ := Kd.R_set h4 h0 (by decide) 3 nilS
  exact ⟨hS, inner, ho, hr.imp_ fun p cs hp => by
    have := kItem_open (kItem.K_of_M hp)
    rw [this]
    exact kItem_mkM _ _ _ _⟩
theorem int_cells_at {w : World} {k : IntKind} {g o : Nat} {xs : List Int} (h : Kd.C (Kd.int k) w (some ⟨g, o, none⟩) xs.length xs) (j : Nat) (hj : j < xs.length) : w.cell? ⟨g, o + j, none⟩ = some (.int k xs[j]) := by
  obtain ⟨g', o', e, _, hc⟩ := int_cells h (by omega)
  injection e with e
  injection e with e1 e2
  subst e1 e2
  exact hc j _ (by simp)
set_option maxHeartbeats 1000000 in
set_option maxRecDepth 100000 in
theorem feed_any (B g : Nat) (held : List Int) (at_ : Int) (A : Option Addr) (bs : List Int) (c : Nat) (w : World)
    (hD : Rest w B g held at_ false) (hn : Begun held) (hk : ∀ b ∈ bs, 0 ≤ b) (hT : Tabs w) (hB1' : 0 < B) (hB2' : 1 < B) (ha : 0 ≤ at_) (ha' : at_ ≤ 1000000000) (hl : bs.length ≤ 1000000)
    (hC : ∀ W, Kept w W (fun j => j = g) → Kd.C (Kd.int .u8) W A bs.length bs) :
    Calls Tryd.prog 16 #[.pointer (some ⟨g, 0, none⟩), .slice A bs.length c] w fun e w' => ∃ v, e = .returned v ∧
      kItem.R 36 w' B (fun k => w.heap.size ≤ k) v (feedS ⟨held, at_, []⟩ bs).out ∧ Rest w' B g (feedS ⟨held, at_, []⟩ bs).held (feedS ⟨held, at_, []⟩ bs).at_ false ∧ Below B w w' ∧ Kept w w' (fun j => j = g) := by
  have HA : Aside0 (∃ ga oa, 0 < bs.length → A = some ⟨ga, oa, none⟩) := by
    by_cases h : 0 < bs.length
    · obtain ⟨ga, oa, e, _⟩ := int_cells (hC w (Kept.refl _ _)) h
      exact ⟨ga, oa, fun _ => e⟩
    · exact ⟨0, 0, fun h' => absurd h' h⟩
  have HC := Aside0.mk hC
  have HD := Aside0.mk hD
  have HT := Aside0.mk hT
  have HN := Aside0.mk hn
  have HK := Aside0.mk hk
  obtain ⟨⟨A0, c0, hb, hR⟩, hge, hle, _⟩ := hD
  have c2 : w.cell? ⟨g, 2, none⟩ = some (.bool false) := (blk_cell hb 2).trans rfl
  clear hb hR hC hT hn hk
  go_enter Tryd.func16, Tryd.ntmps16
  go_wp2
  go_loopw [17] (fun i W => ∃ k : Nat, k ≤ bs.length ∧ i = .int .i64 k ∧ Aside0 (DecPost w B g false nilS (feedS ⟨held, at_, []⟩ (bs.take k)) W)) (fun i _ => bs.length - (intOf i).toNat)
  case atStart => exact ⟨0, Nat.zero_le _, rfl, ⟨nilS, by simpa [feedS] using HD.out, .inl rfl, Below.refl _ _, Kept.refl _ _⟩⟩
  case round =>
    obtain ⟨k, hk, rfl, HP⟩ := hrel
    by_cases hlt : k < bs.length
    · obtain ⟨v3', hD1, hA1, hB1, hK1⟩ := HP.out
      obtain ⟨ga, oa, hAA⟩ := HA.out
      have hA' := hAA (by omega)
      subst hA'
      have ck := int_cells_at (HC.out _ (hK1.mono mayNil)) k hlt
      have HCALL := Lib.hid (take_any B g v3' (feedS ⟨held, at_, []⟩ (bs.take k)) false bs[k] _ hD1 (feedS_begun _ _ HN.out (fun x hx => HK.out x (List.mem_of_mem_take hx))) (HK.out _ (by simp)) (Tabs_belowB HT.out hB1 hB1' hB2') hB1' hB2' (feedS_bounds held at_ bs k HN.out ha ha' hl).1 (feedS_bounds held at_ bs k HN.out ha ha' hl).2.1 (feedS_bounds held at_ bs k HN.out ha ha' hl).2.2)
      have HA1 := Aside0.mk hA1
      have HB1 := Aside0.mk hB1
      have HK1 := Aside0.mk hK1
      have HX := Aside0.mk hAA
      clear hD1 hA1 hB1 hK1 hAA
      go_wp2_with (go_at_call 23; refine HCALL.out.mono ?_; rintro e w1 ⟨rfl, hP1⟩; have HP1 := Aside0.mk hP1; clear hP1)
      go_roundw
      case rel => exact ⟨k + 1, by omega, by go_num, ⟨by rw [List.take_succ_eq_append_getElem hlt, feedS_snoc]; exact DecPost.then_ HA1.out HB1.out HK1.out HP1.out⟩⟩
      case measure => simp [intOf]; omega
    · have e : bs.take k = bs := List.take_of_length_le (by omega)
      rw [e] at HP
      clear e
      obtain ⟨v3', hD1, hA1, hB1, hK1⟩ := HP.out
      have HD1 := Aside0.mk hD1
      have HA1 := Aside0.mk hA1
      have HB1 := Aside0.mk hB1
      have HK1 := Aside0.mk hK1
      clear hD1 hA1 hB1 hK1
      go_wp2_with (go_at_call 24; refine (taken_any B g v3' _ _ false _ _ HD1.out).mono ?_; rintro e w1 ⟨rfl, rfl⟩)
      go_ret
      refine ⟨_, rfl, HD1.out.items _ (fun k hk => ?_), HD1.out.rest, HB1.out.setCell (show B ≤ (⟨g, 3, none⟩ : Addr).block from hge) _, (HK1.out.mono mayNil).setCell (p := ⟨g, 3, none⟩) (.inl rfl) _⟩
      rcases HA1.out with h | ⟨b, h, h'⟩
      · rw [h] at hk
        simp [Value.ownBlock] at hk
      · rw [h] at hk
        injection hk with hk
        omega
end Go.Proofs.YtlopjkfhkfbhlaaDoor.Dec
