/- runes.Has and what it hands to the library. -/
import Derived.Test.YtmmdnjooddhhoaaRpB
set_option linter.unusedVariables false
set_option linter.unusedSimpArgs false
namespace Go.Proofs.Ytmmdnjooddhhoaa.Rn
open Go Go.RowKit Go.Proofs.YtmmdnjooddhhoaaW.PrintWords Go.Proofs.YtmmdnjooddhhoaaW.PrintLast Go.Proofs.YtmmdnjooddhhoaaW.PrintMore
abbrev Rg := S35
def inR (r : Int) (x : Rg) : Bool := decide (x.f0 ≤ r) && decide (r ≤ x.f1)
theorem blk_lt' {w : World} {a : Addr} {v : Value} (h : w.cell? a = some v) : a.block < w.heap.size := World.block_lt_of_cell? w _ h
theorem join_below {w W W' : World} (h : Below w.heap.size w W) (hb : Below W.heap.size W W') : Below w.heap.size w W' := h.trans (hb.mono h.size)
theorem below1 (w : World) (o : Obj) : Below w.heap.size w (w.alloc o) := (Below.refl _ _).alloc (Nat.le_refl _) _
set_option maxHeartbeats 1000000 in
theorem has_in (lo hi r : Int) (B : Nat) (w : World) (hc : w.cell? ⟨B, 0, none⟩ = some (.int .i32 r)) :
    Calls Try.prog 36 #[.agg #[.int .i32 lo, .int .i32 hi], .pointer (some ⟨B, 0, none⟩)] w fun e w' => e = .returned (.bool (decide (lo ≤ r) && decide (r ≤ hi))) ∧ Below w.heap.size w w' := by
  have hB : B < w.heap.size := blk_lt' hc
  have hne : B ≠ w.heap.size := by omega
  by_cases h1 : lo ≤ r
  · by_cases h2 : r ≤ hi
    · have e : (decide (lo ≤ r) && decide (r ≤ hi)) = true := by simp [h1, h2]
      rw [e]
      go_enter Try.func36, Try.ntmps36
      go_wp2
      repeat (go_quiet (fail); try go_wp2)
      go_ret
      exact ⟨rfl, by first | exact below1 _ _ | exact pw_below_drewN (below1 _ _) _⟩
    · have e : (decide (lo ≤ r) && decide (r ≤ hi)) = false := by simp [h2]
      rw [e]
      go_enter Try.func36, Try.ntmps36
      go_wp2
      repeat (go_quiet (fail); try go_wp2)
      go_ret
      exact ⟨rfl, by first | exact below1 _ _ | exact pw_below_drewN (below1 _ _) _⟩
  · have e : (decide (lo ≤ r) && decide (r ≤ hi)) = false := by simp [h1]
    have hd : decide (lo ≤ r) = false := decide_eq_false h1
    rw [e]
    go_enter Try.func36, Try.ntmps36
    go_wp2
    repeat (go_quiet (fail); try go_wp2)
    go_ret
    exact ⟨rfl, by first | exact below1 _ _ | exact pw_below_drewN (below1 _ _) _⟩
theorem cell_spot {w : World} {b o : Nat} {sp : Option Nat} {v : Value} (h : w.cell? ⟨b, o, sp⟩ = some v) : sp = none := by
  cases sp with
  | none => rfl
  | some s =>
    unfold World.cell? at h
    split at h <;> simp_all
/-- a row of ranges that is read, by plain addresses -/
theorem rg_cells {w : World} {A : Option Addr} {xs : List Rg} (h : k35.C w A xs.length xs) (hn : 0 < xs.length) :
    ∃ g o, A = some ⟨g, o, none⟩ ∧ g < w.heap.size ∧ ∀ j x, xs[j]? = some x → w.cell? ⟨g, o + j * 2, none⟩ = some (.int .i32 x.f0) ∧ w.cell? ⟨g, o + j * 2 + 1, none⟩ = some (.int .i32 x.f1) := by
  obtain ⟨ad, rfl, hc⟩ := h.2.2 hn
  obtain ⟨g, o, sp⟩ := ad
  have h0 : ∃ v, w.cell? ⟨g, o, sp⟩ = some v := by
    obtain ⟨c, hl, hR, hcc⟩ := hc 0 xs[0] (by simp)
    have hR' := k35_open hR
    subst hR'
    have h1 := hcc 0 _ rfl
    exact ⟨_, by simpa [Addr.add, Nat.zero_mul] using h1⟩
  obtain ⟨v, hv⟩ := h0
  obtain rfl := cell_spot hv
  refine ⟨g, o, rfl, World.block_lt_of_cell? w _ hv, fun j x hx => ?_⟩
  obtain ⟨c, hl, hR, hcc⟩ := hc j x hx
  have hR' := k35_open hR
  subst hR'
  have hk : ∀ i u, ([.int .i32 x.f0, .int .i32 x.f1] : List Value)[i]? = some u → w.cell? ⟨g, o + j * 2 + i, none⟩ = some u := fun i u hu => by
    have := hcc i u hu
    rw [add_at] at this
    rw [Nat.add_assoc]
    exact this
  exact ⟨hk 0 _ rfl, hk 1 _ rfl⟩
/-- where the first is, or -1 -/
def FirstAt (p : Rg → Bool) (xs : List Rg) (v : Int) : Prop := (0 ≤ v ∧ xs.any p = true) ∨ (v = -1 ∧ xs.any p = false)
set_option maxHeartbeats 1000000 in
set_option maxRecDepth 100000 in
theorem index_in (r : Int) (B : Nat) (A : Option Addr) (xs : List Rg) (c : Nat) (w : World) (hC : k35.C w A xs.length xs) (hl : xs.length ≤ 9223372036854775807) (hc : w.cell? ⟨B, 0, none⟩ = some (.int .i32 r)) :
    Calls Try.prog 52 #[.slice A xs.length c, .func (.func 36) #[] #[.pointer (some ⟨B, 0, none⟩)]] w fun e w' => ∃ v : Int, e = .returned (.int .i64 v) ∧ FirstAt (inR r) xs v ∧ Below w.heap.size w w' := by
  have hB : B < w.heap.size := blk_lt' hc
  have HC := Aside0.mk hC
  have HCB := Aside0.mk hc
  clear hC hc
  go_enter Try.func52, Try.ntmps52
  go_wp2
  go_loopw [8] (fun i W => ∃ k : Nat, i = .int .i64 k ∧ k ≤ xs.length ∧ Aside0 ((xs.take k).any (inR r) = false) ∧ Aside0 (Below w.heap.size w W)) (fun i _ => xs.length - (intOf i).toNat)
  case atStart => exact ⟨0, rfl, Nat.zero_le _, ⟨rfl⟩, ⟨Below.refl _ _⟩⟩
  case round =>
    obtain ⟨k, rfl, hkl, HN, HB⟩ := hrel
    by_cases hlt : k < xs.length
    · obtain ⟨g, o, rfl, _, hcell⟩ := rg_cells HC.out (by omega)
      obtain ⟨x, hx⟩ : ∃ x, xs[k]? = some x := ⟨_, List.getElem?_eq_getElem hlt⟩
      obtain ⟨x0, x1⟩ := hcell k x hx
      have y0 := (HB.out.cell (p := ⟨g, o + k * 2, none⟩) (blk_lt' x0)).trans x0
      have y1 := (HB.out.cell (p := ⟨g, o + k * 2 + 1, none⟩) (blk_lt' x1)).trans x1
      have HBC := Aside0.mk ((HB.out.cell (p := ⟨B, 0, none⟩) hB).trans HCB.out)
      have HX := Aside0.mk hx
      have HT : Aside0 ((xs.take (k + 1)).any (inR r) = inR r x) := ⟨by
        rw [List.take_add_one, hx]
        simp [HN.out]⟩
      clear hcell hx x0 x1
      cases hp : inR r x with
      | true =>
        have hp2 : (decide (x.f0 ≤ r) && decide (r ≤ x.f1)) = true := hp
        have HP := Aside0.mk hp
        clear hp
        go_wp2_with (go_at_call 36; refine (has_in x.f0 x.f1 r B _ HBC.out).mono ?_; rw [hp2]; rintro e w2 ⟨rfl, hb2⟩; have HB2 := Aside0.mk (join_below HB.out hb2); clear hb2)
        go_ret
        refine ⟨k, rfl, .inl ⟨by omega, ?_⟩, HB2.out⟩
        rw [List.any_eq_true]
        exact ⟨x, List.mem_of_getElem? HX.out, HP.out⟩
      | false =>
        have hp2 : (decide (x.f0 ≤ r) && decide (r ≤ x.f1)) = false := hp
        rw [hp] at HT
        clear hp
        go_wp2_with (go_at_call 36; refine (has_in x.f0 x.f1 r B _ HBC.out).mono ?_; rw [hp2]; rintro e w2 ⟨rfl, hb2⟩; have HB2 := Aside0.mk (join_below HB.out hb2); clear hb2)
        go_roundw
        case rel => exact ⟨k + 1, by go_num, by omega, HT, HB2⟩
        case measure => simp [intOf]; omega
    · have e : xs.take k = xs := List.take_of_length_le (by omega)
      rw [e] at HN
      clear e
      go_wp2
      go_ret
      exact ⟨-1, rfl, .inr ⟨rfl, HN.out⟩, HB.out⟩
set_option maxHeartbeats 1000000 in
theorem contains_in (r : Int) (B : Nat) (A : Option Addr) (xs : List Rg) (c : Nat) (w : World) (hC : k35.C w A xs.length xs) (hl : xs.length ≤ 9223372036854775807) (hc : w.cell? ⟨B, 0, none⟩ = some (.int .i32 r)) :
    Calls Try.prog 35 #[.slice A xs.length c, .func (.func 36) #[] #[.pointer (some ⟨B, 0, none⟩)]] w fun e w' => e = .returned (.bool (xs.any (inR r))) ∧ Below w.heap.size w w' := by
  have HC := Aside0.mk hC
  have HCB := Aside0.mk hc
  obtain ⟨b, hb⟩ : ∃ b, xs.any (inR r) = b := ⟨_, rfl⟩
  have HA := Aside0.mk hb
  rw [hb]
  clear hC hc hb
  go_enter Try.func35, Try.ntmps35
  go_wp2_with fail
  refine (index_in r B A xs c _ HC.out hl HCB.out).mono ?_
  rintro e w2 ⟨v, rfl, hv, hb2⟩
  rcases hv with ⟨h0, h1⟩ | ⟨rfl, h1⟩
  · have h2 : b = true := by rw [← HA.out]; exact h1
    subst h2
    clear h1
    go_wp2
    go_ret
    exact ⟨rfl, hb2⟩
  · have h2 : b = false := by rw [← HA.out]; exact h1
    subst h2
    clear h1
    go_wp2
    go_ret
    exact ⟨rfl, hb2⟩
/-- is it a scalar value -/
def isS (r : Int) : Bool := (decide (0 ≤ r) && decide (r < 55296)) || (decide (57343 < r) && decide (r ≤ 1114111))
theorem is_f (r : Int) : runes_is.f r = some (isS r) := by
  unfold runes_is.f isS
  by_cases h1 : r ≥ 0
  · rw [if_pos h1]
    by_cases h2 : r < 55296
    · rw [if_pos h2]
      simp [h2, show 0 ≤ r from h1]
    · rw [if_neg h2]
      by_cases h3 : r > 57343
      · rw [if_pos h3]
        simp [h2, show 57343 < r from h3]
      · rw [if_neg h3]
        simp [h2, show ¬ 57343 < r from h3]
  · rw [if_neg h1]
    have h3 : ¬ r > 57343 := by omega
    rw [if_neg h3]
    simp [show ¬ 0 ≤ r from h1, show ¬ 57343 < r from h3]
def hasS (l : List Rg) (r : Int) : Bool := isS r && l.any (inR r)
def runes_Has.f (l0 : List Rg) (a1 : Int) : Option (Bool) := some (hasS l0 a1)
set_option maxHeartbeats 1000000 in
set_option maxRecDepth 100000 in
theorem runes_Has.calls (A0 : Option Addr) (c0 : Nat) (l0 : List Rg) (a1 : Int) (r : Bool) (w : World) (hr0 : Kd.C k35 w A0 l0.length l0) (hc0 : l0.length ≤ c0) (h : runes_Has.f l0 a1 = some r) :
    Calls Try.prog 16 #[.slice A0 l0.length c0, .int .i32 a1] w fun e w' => e = .returned (.bool r) ∧ Below w.heap.size w w' := by
  obtain rfl := Option.some.inj h
  have hl : l0.length ≤ 9223372036854775807 := hr0.2.1
  have HC := Aside0.mk hr0
  clear h hr0
  have hnew : (w.alloc (.cells #[.int .i32 a1] 21)).cell? ⟨w.heap.size, 0, none⟩ = some (.int .i32 a1) := by simp
  have HNEW := Aside0.mk hnew
  have HB1 := Aside0.mk (below1 w (.cells #[.int .i32 a1] 21))
  cases hi : isS a1 with
  | true =>
    have hf : runes_is.f a1 = some true := by rw [is_f, hi]
    have HF := Aside0.mk hf
    have hres : hasS l0 a1 = l0.any (inR a1) := by unfold hasS; rw [hi]; rfl
    rw [hres]
    obtain ⟨b, hb⟩ : ∃ b, l0.any (inR a1) = b := ⟨_, rfl⟩
    have HA := Aside0.mk hb
    rw [hb]
    clear hres hb hf hi hnew
    go_enter Try.func16, Try.ntmps16
    go_wp2_with fail
    refine (runes_is.calls a1 true _ HF.out).mono ?_
    rintro e w2 ⟨rfl, ⟨nd, rfl⟩⟩
    go_wp2_with fail
    refine (contains_in a1 w.heap.size A0 l0 c0 _ (Kd.C_below HC.out (pw_below_drewN HB1.out _)) hl (by simp)).mono ?_
    rw [HA.out]
    rintro e w3 ⟨rfl, hb3⟩
    go_wp2
    go_ret
    exact ⟨rfl, join_below (pw_below_drewN HB1.out _) hb3⟩
  | false =>
    have hf : runes_is.f a1 = some false := by rw [is_f, hi]
    have HF := Aside0.mk hf
    have hres : hasS l0 a1 = false := by unfold hasS; rw [hi]; rfl
    rw [hres]
    clear hres hf hi hnew
    go_enter Try.func16, Try.ntmps16
    go_wp2_with fail
    refine (runes_is.calls a1 false _ HF.out).mono ?_
    rintro e w2 ⟨rfl, ⟨nd, rfl⟩⟩
    go_wp2
    go_ret
    exact ⟨rfl, pw_below_drewN HB1.out _⟩
end Go.Proofs.Ytmmdnjooddhhoaa.Rn
