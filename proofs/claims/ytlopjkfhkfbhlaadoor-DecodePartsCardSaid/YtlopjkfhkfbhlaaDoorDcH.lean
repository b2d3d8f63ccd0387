import Derived.Test.YtlopjkfhkfbhlaaDoorDcG
set_option linter.unusedVariables false
set_option linter.unusedSimpArgs false
namespace Go.Proofs.YtlopjkfhkfbhlaaDoor.Dec
open Go Go.RowKit Go.Proofs.YtlopjkfhkfbhlaaDoorW.PrintWords Go.Proofs.YtlopjkfhkfbhlaaDoorW.PrintLast Go.Proofs.YtlopjkfhkfbhlaaDoorW.PrintMore
structure St where
  held : List Int
  at_ : Int
  out : List Item
def tellS (s : St) (bad more : Bool) : St := ⟨[], s.at_ + s.held.length, s.out ++ [⟨if bad = true then 65533 else runeOf s.held, s.at_, s.at_ + s.held.length, bad, more⟩]⟩
def moreS (s : St) (c : Int) : Option St :=
  if growOk s.held c = true then
    (if ((((s.held ++ [c]).length : Int) == longF ((s.held ++ [c]).headD 0)) = true) then some (tellS ⟨s.held ++ [c], s.at_, s.out⟩ false false) else some ⟨s.held ++ [c], s.at_, s.out⟩)
  else none
def takeNil (s : St) (c : Int) : St := (moreS s c).getD (tellS ⟨[c], s.at_, s.out⟩ true false)
def takeS (s : St) (c : Int) : St :=
  match moreS s c with
  | some s' => s'
  | none => if s.held = [] then tellS ⟨[c], s.at_, s.out⟩ true false else takeNil (tellS s true true) c
/-- the beginning of a rune -/
def Begun : List Int → Prop
  | [] => True
  | [a] => 194 ≤ a ∧ a ≤ 244
  | [a, b] => 224 ≤ a ∧ a ≤ 244 ∧ secLo a ≤ b ∧ b ≤ secHi a
  | [a, b, c] => 240 ≤ a ∧ a ≤ 244 ∧ secLo a ≤ b ∧ b ≤ secHi a ∧ 128 ≤ c ∧ c ≤ 191
  | _ => False
theorem Begun.len {l : List Int} (h : Begun l) : l.length ≤ 3 := by
  match l, h with
  | [], _ => simp
  | [a], _ => simp
  | [a, b], _ => simp
  | [a, b, c], _ => simp
theorem longF_ge2 {a : Int} (h : 194 ≤ a) (h' : a ≤ 244) : longF a = (if a ≤ 223 then 2 else if a ≤ 239 then 3 else 4) := by
  unfold longF
  rw [if_neg (by omega)]
  by_cases h1 : a ≤ 223
  · rw [if_pos ⟨h, h1⟩, if_pos h1]
  · rw [if_neg (by omega), if_neg h1]
    by_cases h2 : a ≤ 239
    · rw [if_pos ⟨by omega, h2⟩, if_pos h2]
    · rw [if_neg (by omega), if_neg h2, if_pos ⟨by omega, h'⟩]
theorem begun_grows {l : List Int} {c : Int} (h : Begun l) (h0 : 0 ≤ c) (hc : growOk l c = true) :
    ((((l ++ [c]).length : Int) == longF ((l ++ [c]).headD 0)) = true → Whole (l ++ [c])) ∧ ((((l ++ [c]).length : Int) == longF ((l ++ [c]).headD 0)) = false → Begun (l ++ [c])) := by
  match l, h with
  | [], _ =>
    have hz : longF c ≠ 0 := by simpa [growOk] using hc
    have hr : c < 128 ∨ 194 ≤ c ∧ c ≤ 244 := by
      by_cases h1 : c < 128
      · exact .inl h1
      by_cases h2 : c < 194
      · exact absurd (longF_0 (by omega) h2) hz
      by_cases h3 : c ≤ 244
      · exact .inr ⟨by omega, h3⟩
      · exact absurd (longF_5 (by omega)) hz
    rcases hr with h1 | ⟨h1, h2⟩
    · simp [longF_1 h1, Whole]; omega
    · have := longF_ge2 h1 h2
      simp only [List.nil_append, List.length_singleton, List.headD_cons, this]
      refine ⟨fun h => ?_, fun _ => ⟨h1, h2⟩⟩
      exfalso
      simp at h
      split at h <;> (try split at h) <;> omega
  | [a], ⟨h1, h2⟩ =>
    have h3 : secLo a ≤ c ∧ c ≤ secHi a := by simpa [growOk] using hc
    have := longF_ge2 h1 h2
    simp only [List.cons_append, List.nil_append, List.length_cons, List.length_nil, List.headD_cons, this]
    by_cases h4 : a ≤ 223
    · rw [if_pos h4]
      exact ⟨fun _ => ⟨h1, h4, h3.1, h3.2⟩, fun h => by simp at h⟩
    · rw [if_neg h4]
      refine ⟨fun h => ?_, fun _ => ⟨by omega, h2, h3.1, h3.2⟩⟩
      exfalso
      simp at h
      split at h <;> omega
  | [a, b], ⟨h1, h2, h3, h4⟩ =>
    have h5 : 128 ≤ c ∧ c ≤ 191 := by simpa [growOk] using hc
    have := longF_ge2 (by omega) h2
    simp only [List.cons_append, List.nil_append, List.length_cons, List.length_nil, List.headD_cons, this]
    rw [if_neg (by omega)]
    by_cases h6 : a ≤ 239
    · rw [if_pos h6]
      exact ⟨fun _ => ⟨h1, h6, h3, h4, h5.1, h5.2⟩, fun h => by simp at h⟩
    · rw [if_neg h6]
      exact ⟨fun h => by simp at h, fun _ => ⟨by omega, h2, h3, h4, h5.1, h5.2⟩⟩
  | [a, b, d], ⟨h1, h2, h3, h4, h6, h7⟩ =>
    have h5 : 128 ≤ c ∧ c ≤ 191 := by simpa [growOk] using hc
    have := longF_ge2 (by omega) h2
    simp only [List.cons_append, List.nil_append, List.length_cons, List.length_nil, List.headD_cons, this]
    rw [if_neg (by omega), if_neg (by omega)]
    exact ⟨fun _ => ⟨h1, h2, h3, h4, h6, h7, h5.1, h5.2⟩, fun h => by simp at h⟩
theorem moreS_begun {s s' : St} {c : Int} (h : Begun s.held) (h0 : 0 ≤ c) (hm : moreS s c = some s') : Begun s'.held := by
  unfold moreS at hm
  split at hm
  · rename_i hg
    split at hm
    · cases hm; trivial
    · rename_i hz
      cases hm
      exact (begun_grows h h0 hg).2 (by simpa using hz)
  · cases hm
theorem takeNil_begun {s : St} {c : Int} (h : Begun s.held) (h0 : 0 ≤ c) : Begun (takeNil s c).held := by
  unfold takeNil
  cases hm : moreS s c with
  | none => trivial
  | some s' => exact moreS_begun h h0 hm
theorem takeS_begun {s : St} {c : Int} (h : Begun s.held) (h0 : 0 ≤ c) : Begun (takeS s c).held := by
  unfold takeS
  cases hm : moreS s c with
  | some s' => exact moreS_begun h h0 hm
  | none =>
    dsimp only
    split
    · trivial
    · exact takeNil_begun trivial h0
/-- more, all its ways -/
theorem more_any (B g : Nat) (v3 : Value) (s : St) (cl : Bool) (k : Int) (w : World)
    (hD : IsDec w B g s.held s.at_ cl v3 s.out) (hn : Begun s.held) (hk : 0 ≤ k) (hT : Tabs w) (hB1' : 0 < B) (hB2' : 1 < B) (ha : 0 ≤ s.at_) (ha' : s.at_ ≤ 4611686018427387904) (ho : s.out.length ≤ 1000000000) :
    Calls Tryd.prog 28 #[.pointer (some ⟨g, 0, none⟩), .int .u8 k] w fun e w' => e = .returned (.bool (moreS s k).isSome) ∧
      ∃ v3', IsDec w' B g ((moreS s k).getD s).held ((moreS s k).getD s).at_ cl v3' ((moreS s k).getD s).out ∧ (v3'.ownBlock = v3.ownBlock ∨ ∃ b, v3'.ownBlock = some b ∧ w.heap.size ≤ b) ∧ Below B w w' ∧ Kept w w' (MayDec g v3) := by
  have hl := hn.len
  by_cases hg : growOk s.held k = true
  · by_cases hz : (((s.held ++ [k]).length : Int) == longF ((s.held ++ [k]).headD 0)) = true
    · have hm : moreS s k = some (tellS ⟨s.held ++ [k], s.at_, s.out⟩ false false) := by unfold moreS; rw [if_pos hg, if_pos hz]
      rw [hm]
      refine (more_whole B g v3 s.held s.at_ cl s.out k w hD (by omega) hg hz ((begun_grows hn hk hg).1 hz) hT hB1' hB2' ha ha' ho).mono ?_
      rintro e w' ⟨rfl, v3', h1, h2⟩
      exact ⟨rfl, v3', by simpa [tellS] using h1, h2⟩
    · have hz' := Bool.eq_false_iff.2 hz
      have hm : moreS s k = some ⟨s.held ++ [k], s.at_, s.out⟩ := by unfold moreS; rw [if_pos hg, if_neg hz]
      rw [hm]
      refine (more_ok B g v3 s.held s.at_ cl s.out k w hD (by omega) hg hz').mono ?_
      rintro e w' ⟨rfl, h1, h2, h3⟩
      exact ⟨rfl, v3, h1, .inl rfl, h2, h3.mono fun j hj => .inl hj⟩
  · have hg' := Bool.eq_false_iff.2 hg
    have hm : moreS s k = none := by unfold moreS; rw [if_neg hg]
    rw [hm]
    have hDD := hD
    refine (more_bad B g v3 s.held s.at_ cl s.out k w hD hg').mono ?_
    rintro e w' ⟨rfl, h1⟩
    exact ⟨rfl, v3, hDD.below h1, .inl rfl, h1.mono hDD.le, Kept.of_below h1 _⟩
end Go.Proofs.YtlopjkfhkfbhlaaDoor.Dec
