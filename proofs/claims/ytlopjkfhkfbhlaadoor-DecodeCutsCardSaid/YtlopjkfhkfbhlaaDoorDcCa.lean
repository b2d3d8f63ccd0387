import Derived.Test.YtlopjkfhkfbhlaaDoorDcU
import Derived.Test.YtlopjkfhkfbhlaaDoorDcT
import Derived.Test.YtlopjkfhkfbhlaaDoorDcY
set_option linter.unusedVariables false
set_option linter.unusedSimpArgs false
namespace Go.Proofs.YtlopjkfhkfbhlaaDoor.Dec
open Go Go.RowKit Go.Proofs.YtlopjkfhkfbhlaaDoorW.PrintWords Go.Proofs.YtlopjkfhkfbhlaaDoorW.PrintLast Go.Proofs.YtlopjkfhkfbhlaaDoorW.PrintMore
/-! what was told ahead -/
def addOut (o : List Item) (s : St) : St := ⟨s.held, s.at_, o ++ s.out⟩
theorem tellS_add (o : List Item) (s : St) (b m : Bool) : tellS (addOut o s) b m = addOut o (tellS s b m) := by simp [tellS, addOut]
theorem moreS_add (o : List Item) (s : St) (c : Int) : moreS (addOut o s) c = (moreS s c).map (addOut o) := by
  unfold moreS
  by_cases h1 : growOk s.held c = true
  · have h1' : growOk (addOut o s).held c = true := h1
    rw [if_pos h1, if_pos h1']
    by_cases h2 : (((s.held ++ [c]).length : Int) == longF ((s.held ++ [c]).headD 0)) = true
    · have h2' : ((((addOut o s).held ++ [c]).length : Int) == longF (((addOut o s).held ++ [c]).headD 0)) = true := h2
      rw [if_pos h2, if_pos h2']
      exact congrArg some (tellS_add o ⟨s.held ++ [c], s.at_, s.out⟩ false false)
    · have h2' : ¬ ((((addOut o s).held ++ [c]).length : Int) == longF (((addOut o s).held ++ [c]).headD 0)) = true := h2
      rw [if_neg h2, if_neg h2']
      rfl
  · have h1' : ¬ growOk (addOut o s).held c = true := h1
    rw [if_neg h1, if_neg h1']
    rfl
theorem takeNil_add (o : List Item) (s : St) (c : Int) : takeNil (addOut o s) c = addOut o (takeNil s c) := by
  unfold takeNil
  rw [moreS_add]
  cases moreS s c with
  | some s' => rfl
  | none => exact tellS_add o ⟨[c], s.at_, s.out⟩ true false
theorem takeS_add (o : List Item) (s : St) (c : Int) : takeS (addOut o s) c = addOut o (takeS s c) := by
  unfold takeS
  rw [moreS_add]
  cases moreS s c with
  | some s' => rfl
  | none =>
    show (if s.held = [] then tellS ⟨[c], s.at_, o ++ s.out⟩ true false else takeNil (tellS (addOut o s) true true) c) = addOut o (if s.held = [] then tellS ⟨[c], s.at_, s.out⟩ true false else takeNil (tellS s true true) c)
    by_cases h : s.held = []
    · rw [if_pos h, if_pos h]
      exact tellS_add o ⟨[c], s.at_, s.out⟩ true false
    · rw [if_neg h, if_neg h, tellS_add, takeNil_add]
theorem feedS_add (o : List Item) (bs : List Int) : ∀ s : St, feedS (addOut o s) bs = addOut o (feedS s bs) := by
  induction bs with
  | nil => intro s; rfl
  | cons b r ih =>
    intro s
    show feedS (takeS (addOut o s) b) r = addOut o (feedS (takeS s b) r)
    rw [takeS_add, ih]
/-! what was told ends where the decoder stands -/
def EndOk (s : St) : Prop := s.out = [] ∧ s.at_ = 0 ∨ ∃ l x, s.out = l ++ [x] ∧ x.to_ = s.at_
theorem tellS_end (s : St) (b m : Bool) : EndOk (tellS s b m) := .inr ⟨s.out, _, rfl, rfl⟩
theorem moreS_end {s s' : St} {c : Int} (h : EndOk s) (hm : moreS s c = some s') : EndOk s' := by
  unfold moreS at hm
  split at hm
  · split at hm
    · cases hm
      exact tellS_end _ _ _
    · cases hm
      exact h
  · cases hm
theorem takeS_end {s : St} {c : Int} (h : EndOk s) : EndOk (takeS s c) := by
  unfold takeS
  cases hm : moreS s c with
  | some s' => exact moreS_end h hm
  | none =>
    dsimp only
    split
    · exact tellS_end _ _ _
    · unfold takeNil
      cases hm2 : moreS (tellS s true true) c with
      | some s' => exact moreS_end (tellS_end _ _ _) hm2
      | none => exact tellS_end _ _ _
theorem feedS_end (bs : List Int) : ∀ s : St, EndOk s → EndOk (feedS s bs) := by
  induction bs with
  | nil => intro s h; exact h
  | cons b r ih => intro s h; exact ih _ (takeS_end h)
/-- the decoder behind so many bytes -/
def PS (bs : List Int) (p : Nat) : St := feedS ⟨[], 0, []⟩ (bs.take p)
theorem PS_zero (bs : List Int) : PS bs 0 = ⟨[], 0, []⟩ := rfl
theorem PS_all (bs : List Int) (p : Nat) (h : bs.length ≤ p) : PS bs p = feedS ⟨[], 0, []⟩ bs := by
  unfold PS
  rw [List.take_of_length_le h]
theorem PS_next {bs ys : List Int} {p : Nat} (h : (bs.drop p).take ys.length = ys) : PS bs (p + ys.length) = addOut (PS bs p).out (feedS ⟨(PS bs p).held, (PS bs p).at_, []⟩ ys) := by
  unfold PS
  rw [List.take_add, h, feedS_app, ← feedS_add]
  simp only [addOut, List.append_nil]
theorem PS_begun (bs : List Int) (p : Nat) (hk : ∀ b ∈ bs, 0 ≤ b) : Begun (PS bs p).held := feedS_begun _ _ trivial (fun b hb => hk b (List.mem_of_mem_take hb))
theorem PS_held (bs : List Int) (p : Nat) (hp : p ≤ bs.length) : (PS bs p).at_ + (PS bs p).held.length = p := by
  have h := (feedS_size (bs.take p) ⟨[], 0, []⟩).1
  have e : (bs.take p).length = p := by rw [List.length_take]; omega
  rw [e] at h
  simpa [PS] using h
theorem PS_at (bs : List Int) (p : Nat) : 0 ≤ (PS bs p).at_ := feedS_at _ ⟨[], 0, []⟩
theorem PS_out (bs : List Int) (p : Nat) : (PS bs p).out.length ≤ 2 * bs.length := by
  have h := (feedS_size (bs.take p) ⟨[], 0, []⟩).2
  have e : (bs.take p).length ≤ bs.length := by rw [List.length_take]; omega
  simp only [List.length_nil, Nat.zero_add] at h
  unfold PS
  omega
theorem PS_end (bs : List Int) (p : Nat) : EndOk (PS bs p) := feedS_end _ _ (.inl ⟨rfl, rfl⟩)
theorem PS_last {bs : List Int} {p : Nat} (h : 0 < (PS bs p).out.length) : ((PS bs p).out[(PS bs p).out.length - 1]'(by omega)).to_ = (PS bs p).at_ := by
  rcases PS_end bs p with ⟨h1, _⟩ | ⟨l, x, h1, h2⟩
  · rw [h1] at h
    exact absurd h (by decide)
  · rw [← h2]
    congr 1
    simp [h1]
theorem PS_end_at {bs : List Int} {p n : Nat} (h : (PS bs p).out.length = n + 1) : ∃ x, (PS bs p).out[n]? = some x ∧ x.to_ = (PS bs p).at_ :=
  ⟨(PS bs p).out[n]'(by omega), by rw [List.getElem?_eq_getElem], by
    have h2 := PS_last (bs := bs) (p := p) (by omega)
    have e : (PS bs p).out.length - 1 = n := by omega
    simpa [e] using h2⟩
theorem PS_first {bs : List Int} {p : Nat} (h : ¬ 0 < (PS bs p).out.length) : (PS bs p).at_ = 0 := by
  rcases PS_end bs p with ⟨_, h1⟩ | ⟨l, x, h1, _⟩
  · exact h1
  · rw [h1] at h
    simp at h
theorem PS_close (bs : List Int) : allS bs = (PS bs bs.length).out ++ (closeS ⟨(PS bs bs.length).held, (PS bs bs.length).at_, []⟩).out := by
  rw [PS_all bs _ (Nat.le_refl _)]
  rfl
/-! the decoder stands where a row of items grows -/
theorem R_int_off {W : World} {B : Nat} {ok S : Nat → Prop} {v : Value} {xs : List Int} (h : (Kd.int .u8).R 5 W B ok v xs) (hS : ∀ k, v.ownBlock = some k → S k) : (Kd.int .u8).R 5 W B S v xs := by
  obtain ⟨_, inner, ho, hr⟩ := h
  exact ⟨hS, inner, ho, hr.imp_ fun p cs hp => hp⟩
theorem Rest_grown {W w1 : World} {B g : Nat} {held : List Int} {at_ : Int} {cl : Bool} {v : Value} {xs : List Item} {base : Nat} {ok : Nat → Prop} (hD : Rest W B g held at_ cl)
    (hR : kItem.R 36 W base ok v xs) (hg : W.grownBy w1 v.ownBlock) : Rest w1 B g held at_ cl := by
  obtain ⟨⟨A, c, h0, h1⟩, h2, h3, h4⟩ := hD
  have hty : ∀ k, v.ownBlock = some k → ∃ cells, W.heap[k]? = some (.cells cells 36 (0, 0)) := fun k hk => by
    obtain ⟨_, inner, ho, _⟩ := hR
    exact own_typed ho k hk
  have hne : some g ≠ v.ownBlock := fun e => by
    obtain ⟨cells, hc⟩ := hty g e.symm
    rw [h0] at hc
    injection hc with hc
    injection hc with _ hc
    exact absurd hc (by decide)
  have hne2 : ∀ k, (Value.slice A held.length c).ownBlock = some k → ¬ some k = v.ownBlock := fun k hk e => by
    obtain ⟨cells, hc⟩ := hty k e.symm
    obtain ⟨_, inner, ho, _⟩ := h1
    obtain ⟨cells2, hc2⟩ := own_typed ho k hk
    rw [hc2] at hc
    injection hc with hc
    injection hc with _ hc
    exact absurd hc (by decide)
  have hk : Kept W w1 (fun k => some k = v.ownBlock) := Kept.of_grown hg (Kept.refl W (fun k => some k = v.ownBlock)) (fun k hk => .inl hk.symm)
  exact ⟨⟨A, c, (hg.block g (blk_lt h0) hne).trans h0, Kd.R_mono (Kd.R_kept (R_int_off h1 (S := fun k => ¬ some k = v.ownBlock) hne2) hk (fun _ h => h)) (fun _ _ => trivial)⟩, h2, Nat.le_trans h3 hg.size, Kd.R_nil _ _ _ _ _⟩
theorem items_n (A0 A1 : Option Addr) (c0 c1 n : Nat) (xs : List Item) (w : World) (hn : xs.length = n) (hl : xs.length ≤ 1000000000) (h0 : kItem.C w A0 xs.length xs) (h1 : kItem.C w A1 xs.length xs) :
    Calls Tryd.prog 10 #[.slice A0 n c0, .slice A1 n c1] w fun e w' => e = .returned (.bool true) ∧ Drawn0 w w' := by
  subst hn
  exact items_same A0 A1 c0 c1 xs w hl h0 h1
theorem held_k (B g : Nat) (held : List Int) (at_ : Int) (cl : Bool) (v : Int) (w : World) (hv : (held.length : Int) = v) (hD : Rest w B g held at_ cl) :
    Calls Tryd.prog 18 #[.pointer (some ⟨g, 0, none⟩)] w fun e w' => e = .returned (.int .i64 v) ∧ w = w' := by
  subst hv
  exact held_any B g held at_ cl w hD
theorem closeS_held (s : St) : (closeS s).held = [] := by
  unfold closeS
  split
  · assumption
  · rfl
/-- a cut of bytes that came in -/
theorem C_mid {k : IntKind} {W : World} {A : Option Addr} {bs ys : List Int} {c p : Nat} (h : Kd.C (Kd.int k) W A bs.length bs) (hp : p + ys.length ≤ bs.length) (hc : bs.length ≤ c) (hy : (bs.drop p).take ys.length = ys) :
    Kd.C (Kd.int k) W (if c = p then A else A.map (·.add (p * 1))) ys.length ys := by
  have h1 := Kd.C_drop (c := c) (m := p) h (by omega) hc
  have h2 := Kd.C_take (m := ys.length) h1 (by rw [List.length_drop]; omega)
  rw [hy] at h2
  exact h2
end Go.Proofs.YtlopjkfhkfbhlaaDoor.Dec
