import Derived.Test.YtlopjkfhkfbhlaaDoorDcH
import Derived.Test.YtlopjkfhkfbhlaaDoorWRepsOne
set_option linter.unusedVariables false
set_option linter.unusedSimpArgs false
namespace Go.Proofs.YtlopjkfhkfbhlaaDoor.Dec
open Go Go.RowKit Go.Proofs.YtlopjkfhkfbhlaaDoorW.PrintWords Go.Proofs.YtlopjkfhkfbhlaaDoorW.PrintLast Go.Proofs.YtlopjkfhkfbhlaaDoorW.PrintMore
/-- behind a call on the decoder: it holds s; what else was there stands -/
def DecPost (w : World) (B g : Nat) (cl : Bool) (v3 : Value) (s : St) (w' : World) : Prop :=
  ∃ v3', IsDec w' B g s.held s.at_ cl v3' s.out ∧ (v3'.ownBlock = v3.ownBlock ∨ ∃ b, v3'.ownBlock = some b ∧ w.heap.size ≤ b) ∧ Below B w w' ∧ Kept w w' (MayDec g v3)
theorem DecPost.then_ {w w1 w2 : World} {B g : Nat} {cl : Bool} {v3 v3' : Value} {s : St} (hA : v3'.ownBlock = v3.ownBlock ∨ ∃ b, v3'.ownBlock = some b ∧ w.heap.size ≤ b) (hB : Below B w w1) (hK : Kept w w1 (MayDec g v3))
    (h : DecPost w1 B g cl v3' s w2) : DecPost w B g cl v3 s w2 := by
  obtain ⟨v4, hD, hA2, hB2, hK2⟩ := h
  refine ⟨v4, hD, ?_, hB.trans hB2, hK.then_ hK2 ?_⟩
  · rcases hA2 with h2 | ⟨b, h2, h3⟩
    · rw [h2]; exact hA
    · exact .inr ⟨b, h2, Nat.le_trans hB.size h3⟩
  · rintro k (h | h)
    · exact .inl (.inl h)
    · rcases hA with h1 | ⟨b, h1, h2⟩
      · exact .inl (.inr (h.trans h1))
      · rw [h1] at h
        injection h with h
        exact .inr (by omega)
theorem R_fresh1 (w : World) (B : Nat) (hB : B ≤ w.heap.size) (k : Int) : (Kd.int .u8).R 5 (w.alloc (.cells #[.int .u8 k] 5)) B (fun _ => True) (.slice (some ⟨w.heap.size, 0, none⟩) 1 1) [k] := by
  refine ⟨fun _ _ => trivial, [.int .u8 k], ?_, Reps.one (show Kd.M (Kd.int .u8) _ _ _ k [.int .u8 k] from rfl) (Reps.none _ _)⟩
  have h2 := World.ownsRow_lit (base := B) (e := 5) (size := 1) w #[.int .u8 k] 1 hB (by decide) (by simp)
  show (w.alloc _).ownsRow B 5 1 _ 1 _
  simpa using h2
theorem IsDec.hold {w : World} {B g : Nat} {held : List Int} {at_ : Int} {cl : Bool} {v3 : Value} {out : List Item} (h : IsDec w B g held at_ cl v3 out) (k : Int) :
    IsDec ((w.alloc (.cells #[.int .u8 k] 5)).setCell ⟨g, 0, none⟩ (.slice (some ⟨w.heap.size, 0, none⟩) 1 1)) B g [k] at_ cl v3 out := by
  obtain ⟨⟨A, c, h0, h1⟩, h2, h3, h4⟩ := h
  have h0' := blk_alloc h0 (.cells #[.int .u8 k] 5)
  exact IsDec.of (A := some ⟨w.heap.size, 0, none⟩) (c := 1) (blk_put h0' 0 _ rfl) (Kd.R_set (R_fresh1 w B h3 k) h0' (by decide) 0 _) h2 (by simp [World.setCell]; omega) (Kd.R_set (Kd.R_alloc h4 _) h0' (by decide) 0 _)
set_option maxHeartbeats 1000000 in
set_option maxRecDepth 100000 in
theorem take_nil (B g : Nat) (v3 : Value) (s : St) (cl : Bool) (k : Int) (w : World)
    (hD : IsDec w B g s.held s.at_ cl v3 s.out) (hn : s.held = []) (hk : 0 ≤ k) (hT : Tabs w) (hB1' : 0 < B) (hB2' : 1 < B) (ha : 0 ≤ s.at_) (ha' : s.at_ ≤ 4611686018427387904) (ho : s.out.length ≤ 1000000000) :
    Calls Tryd.prog 23 #[.pointer (some ⟨g, 0, none⟩), .int .u8 k] w fun e w' => e = .returned (.tuple #[]) ∧ DecPost w B g cl v3 (takeNil s k) w' := by
  have HM := Lib.hid (more_any B g v3 s cl k w hD (by rw [hn]; trivial) hk hT hB1' hB2' ha ha' ho)
  have HT := Aside0.mk hT
  have HN := Aside0.mk hn
  cases hm : moreS s k with
  | some s' =>
    have HS : Aside0 (takeNil s k = s') := ⟨by unfold takeNil; rw [hm]; rfl⟩
    rw [hm] at HM
    clear hD hT hn hm
    go_enter Tryd.func23, Tryd.ntmps23
    go_wp2_with (go_at_call 28; refine HM.out.mono ?_; rintro e w1 ⟨rfl, hP⟩)
    first | go_end0 | refine bodyPost_ret (results_none rfl _ _ _) rfl ?_
    exact ⟨rfl, by rw [HS.out]; exact hP⟩
  | none =>
    have HS : Aside0 (takeNil s k = tellS ⟨[k], s.at_, s.out⟩ true false) := ⟨by unfold takeNil; rw [hm]; rfl⟩
    have HM' : Hid (Calls Tryd.prog 28 #[.pointer (some ⟨g, 0, none⟩), .int .u8 k] w fun e w' => e = .returned (.bool false) ∧ DecPost w B g cl v3 s w') := by
      rw [hm] at HM
      exact HM
    clear hD hT hn hm HM
    go_enter Tryd.func23, Tryd.ntmps23
    go_wp2_with (first | (go_at_call 28; refine HM'.out.mono ?_; rintro e w1 ⟨rfl, v3', hD1, hA1, hB1, hK1⟩; have HD1 := Aside0.mk hD1; have HB1 := Aside0.mk hB1; have HK1 := Aside0.mk hK1; have HA1 := Aside0.mk hA1; obtain ⟨⟨A, c, hb, hR⟩, hge, hle, hR3⟩ := hD1; rw [HN.out] at hb; have c0 : w1.cell? ⟨g, 0, none⟩ = some (.slice A 0 c) := (blk_cell hb 0).trans rfl; have c1 : ∀ o, (w1.alloc o).cell? ⟨g, 0, none⟩ = some (.slice A 0 c) := later c0; have f1 : ∀ o, (w1.alloc o).frozen? ⟨g, 0, none⟩ = false := fun o => blk_frozen (blk_alloc hb o) 0; clear hR hR3 hb hA1 hB1 hK1) | (go_at_call 25; refine (tell_any B g v3' [k] s.at_ cl true false s.out 65533 _ (HD1.out.hold k) (by simp) ha ha' ho (.inl ⟨rfl, rfl⟩)).mono ?_; rintro e w2 ⟨rfl, hP2⟩; have HP2 := Aside0.mk (show DecPost _ B g cl v3' (tellS ⟨[k], s.at_, s.out⟩ true false) w2 from hP2); clear hP2))
    go_end0
    refine ⟨rfl, ?_⟩
    rw [HS.out]
    exact DecPost.then_ HA1.out (HB1.out.trans (((Below.refl _ _).alloc hle _).setCell (show B ≤ (⟨g, 0, none⟩ : Addr).block from hge) (.slice (some ⟨w1.heap.size, 0, none⟩) 1 1))) (((HK1.out.alloc _).setCell (p := ⟨g, 0, none⟩) (.inl (.inl rfl)) (.slice (some ⟨w1.heap.size, 0, none⟩) 1 1))) HP2.out
set_option maxHeartbeats 1000000 in
set_option maxRecDepth 100000 in
theorem take_any (B g : Nat) (v3 : Value) (s : St) (cl : Bool) (k : Int) (w : World)
    (hD : IsDec w B g s.held s.at_ cl v3 s.out) (hn : Begun s.held) (hk : 0 ≤ k) (hT : Tabs w) (hB1' : 0 < B) (hB2' : 1 < B) (ha : 0 ≤ s.at_) (ha' : s.at_ ≤ 4611686018427387000) (ho : s.out.length ≤ 999999999) :
    Calls Tryd.prog 23 #[.pointer (some ⟨g, 0, none⟩), .int .u8 k] w fun e w' => e = .returned (.tuple #[]) ∧ DecPost w B g cl v3 (takeS s k) w' := by
  have hl := hn.len
  by_cases he : s.held = []
  · refine (take_nil B g v3 s cl k w hD he hk hT hB1' hB2' ha (by omega) (by omega)).mono ?_
    rintro e w' ⟨rfl, hP⟩
    refine ⟨rfl, ?_⟩
    have : takeS s k = takeNil s k := by
      unfold takeS takeNil
      cases hm : moreS s k with
      | some s' => rfl
      | none => simp [he]
    rw [this]
    exact hP
  have HM := Lib.hid (more_any B g v3 s cl k w hD hn hk hT hB1' hB2' ha (by omega) (by omega))
  have HT := Aside0.mk hT
  have HL := Aside0.mk hl
  have hpos : (0 : Int) < (s.held.length : Int) := by
    have : s.held.length ≠ 0 := by simpa using he
    omega
  cases hm : moreS s k with
  | some s' =>
    have HS : Aside0 (takeS s k = s') := ⟨by unfold takeS; rw [hm]⟩
    rw [hm] at HM
    clear hD hT hn hm hl he
    go_enter Tryd.func23, Tryd.ntmps23
    go_wp2_with (go_at_call 28; refine HM.out.mono ?_; rintro e w1 ⟨rfl, hP⟩)
    first | go_end0 | refine bodyPost_ret (results_none rfl _ _ _) rfl ?_
    exact ⟨rfl, by rw [HS.out]; exact hP⟩
  | none =>
    have HS : Aside0 (takeS s k = takeNil (tellS s true true) k) := ⟨by unfold takeS; rw [hm]; simp [he]⟩
    have HM' : Hid (Calls Tryd.prog 28 #[.pointer (some ⟨g, 0, none⟩), .int .u8 k] w fun e w' => e = .returned (.bool false) ∧ DecPost w B g cl v3 s w') := by
      rw [hm] at HM
      exact HM
    clear hD hT hn hm HM hl he
    go_enter Tryd.func23, Tryd.ntmps23
    go_wp2_with (first | (go_at_call 28; refine HM'.out.mono ?_; rintro e w1 ⟨rfl, v3', hD1, hA1, hB1, hK1⟩; have HD1 := Aside0.mk hD1; have HB1 := Aside0.mk hB1; have HK1 := Aside0.mk hK1; have HA1 := Aside0.mk hA1; obtain ⟨⟨A, c, hb, hR⟩, hge, hle, hR3⟩ := hD1; have c0 : w1.cell? ⟨g, 0, none⟩ = some (.slice A s.held.length c) := (blk_cell hb 0).trans rfl; clear hR hR3 hb hA1 hB1 hK1) | (go_at_call 25; refine (tell_any B g v3' s.held s.at_ cl true true s.out 65533 _ HD1.out (by have := HL.out; omega) ha (by omega) (by omega) (.inl ⟨rfl, rfl⟩)).mono ?_; rintro e w2 ⟨rfl, hP2⟩; have HP2 := Aside0.mk (show DecPost _ B g cl v3' (tellS s true true) w2 from hP2); clear hP2) | (go_at_call 23; obtain ⟨v4, hD2, hA2, hB2, hK2⟩ := HP2.out; refine (take_nil B g v4 (tellS s true true) cl k _ hD2 rfl hk (Tabs_belowB HT.out (HB1.out.trans hB2) hB1' hB2') ?t1 ?t2 ?t3 ?t4 ?t5).mono ?_; (case t1 => exact hB1'); (case t2 => exact hB2'); (case t3 => simp only [tellS]; omega); (case t4 => have := HL.out; simp only [tellS]; omega); (case t5 => simp only [tellS, List.length_append, List.length_singleton]; omega); rintro e w3 ⟨rfl, hP3⟩; have HP3 := Aside0.mk (DecPost.then_ hA2 hB2 hK2 hP3); clear hP3 hA2 hB2 hK2 hD2))
    first | go_end0 | refine bodyPost_ret (results_none rfl _ _ _) rfl ?_
    refine ⟨rfl, ?_⟩
    rw [HS.out]
    exact DecPost.then_ HA1.out HB1.out HK1.out HP3.out
end Go.Proofs.YtlopjkfhkfbhlaaDoor.Dec
