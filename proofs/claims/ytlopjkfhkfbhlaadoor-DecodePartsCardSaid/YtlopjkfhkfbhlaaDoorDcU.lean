import Derived.Test.YtlopjkfhkfbhlaaDoorDcS
set_option linter.unusedVariables false
set_option linter.unusedSimpArgs false
namespace Go.Proofs.YtlopjkfhkfbhlaaDoor.Dec
open Go
theorem feedS_app (s : St) (xs ys : List Int) : feedS s (xs ++ ys) = feedS (feedS s xs) ys := by simp [feedS]
theorem takeS_grow {held : List Int} {p : Int} {out : List Item} {c : Int} (hg : growOk held c = true) (hl : ((held.length : Int) + 1) ≠ longF ((held ++ [c]).headD 0)) : takeS ⟨held, p, out⟩ c = ⟨held ++ [c], p, out⟩ := by
  have h2 : ((((held ++ [c]).length : Int) == longF ((held ++ [c]).headD 0)) = true) ↔ False := by
    rw [beq_iff_eq, List.length_append]
    simp only [List.length_singleton]
    exact ⟨fun h => hl (by rw [← h]; omega), False.elim⟩
  unfold takeS moreS
  simp only [hg, h2, if_true, if_false]
theorem takeS_whole {held : List Int} {p : Int} {out : List Item} {c : Int} (hg : growOk held c = true) (hl : ((held.length : Int) + 1) = longF ((held ++ [c]).headD 0)) : takeS ⟨held, p, out⟩ c = ⟨[], p + ((held ++ [c]).length : Nat), out ++ [(⟨runeOf (held ++ [c]), p, p + ((held ++ [c]).length : Nat), false, false⟩ : Item)]⟩ := by
  have h2 : ((((held ++ [c]).length : Int) == longF ((held ++ [c]).headD 0)) = true) ↔ True := by
    rw [beq_iff_eq, List.length_append]
    simp only [List.length_singleton]
    exact ⟨fun _ => True.intro, fun _ => by rw [← hl]; omega⟩
  unfold takeS moreS
  simp only [hg, h2, if_true, tellS]
  rfl
/-- a whole rune's bytes, byte by byte -/
theorem feed_whole {l : List Int} (h : Whole l) (p : Int) (out : List Item) :
    feedS ⟨[], p, out⟩ l = ⟨[], p + l.length, out ++ [(⟨runeOf l, p, p + l.length, false, false⟩ : Item)]⟩ ∧ ∀ k, k < l.length → feedS ⟨[], p, out⟩ (l.take k) = ⟨l.take k, p, out⟩ := by
  match l, h with
  | [a], h =>
    obtain ⟨h0, h1⟩ := h
    have hlong : longF a = 1 := by unfold longF; rw [if_pos h1]
    refine ⟨takeS_whole (held := []) (by simp [growOk, hlong]) (by simp [hlong]), fun k hk => ?_⟩
    obtain rfl : k = 0 := by simp at hk; omega
    rfl
  | [a, b], h =>
    obtain ⟨h0, h1, h2, h3⟩ := h
    have hlong : longF a = 2 := by unfold longF; rw [if_neg (by omega), if_pos (by omega)]
    have e1 : takeS ⟨[], p, out⟩ a = ⟨[a], p, out⟩ := takeS_grow (held := []) (by simp [growOk, hlong]) (by simp [hlong])
    have e2 := takeS_whole (held := [a]) (p := p) (out := out) (c := b) (by simp [growOk, h2, h3]) (by simp [hlong])
    refine ⟨(by show takeS (takeS _ a) b = _; rw [e1]; exact e2), fun k hk => ?_⟩
    simp at hk
    match k, hk with
    | 0, _ => rfl
    | 1, _ => exact e1
  | [a, b, c], h =>
    obtain ⟨h0, h1, h2, h3, h4, h5⟩ := h
    have hlong : longF a = 3 := by unfold longF; rw [if_neg (by omega), if_neg (by omega), if_pos (by omega)]
    have e1 : takeS ⟨[], p, out⟩ a = ⟨[a], p, out⟩ := takeS_grow (held := []) (by simp [growOk, hlong]) (by simp [hlong])
    have e2 : takeS ⟨[a], p, out⟩ b = ⟨[a, b], p, out⟩ := takeS_grow (held := [a]) (by simp [growOk, h2, h3]) (by simp [hlong])
    have e3 := takeS_whole (held := [a, b]) (p := p) (out := out) (c := c) (by simp [growOk, h4, h5]) (by simp [hlong])
    refine ⟨(by show takeS (takeS (takeS _ a) b) c = _; rw [e1, e2]; exact e3), fun k hk => ?_⟩
    simp at hk
    match k, hk with
    | 0, _ => rfl
    | 1, _ => exact e1
    | 2, _ => show takeS (takeS _ a) b = _; rw [e1]; exact e2
  | [a, b, c, d], h =>
    obtain ⟨h0, h1, h2, h3, h4, h5, h6, h7⟩ := h
    have hlong : longF a = 4 := by unfold longF; rw [if_neg (by omega), if_neg (by omega), if_neg (by omega), if_pos (by omega)]
    have e1 : takeS ⟨[], p, out⟩ a = ⟨[a], p, out⟩ := takeS_grow (held := []) (by simp [growOk, hlong]) (by simp [hlong])
    have e2 : takeS ⟨[a], p, out⟩ b = ⟨[a, b], p, out⟩ := takeS_grow (held := [a]) (by simp [growOk, h2, h3]) (by simp [hlong])
    have e3 : takeS ⟨[a, b], p, out⟩ c = ⟨[a, b, c], p, out⟩ := takeS_grow (held := [a, b]) (by simp [growOk, h4, h5]) (by simp [hlong])
    have e4 := takeS_whole (held := [a, b, c]) (p := p) (out := out) (c := d) (by simp [growOk, h6, h7]) (by simp [hlong])
    refine ⟨(by show takeS (takeS (takeS (takeS _ a) b) c) d = _; rw [e1, e2, e3]; exact e4), fun k hk => ?_⟩
    simp at hk
    match k, hk with
    | 0, _ => rfl
    | 1, _ => exact e1
    | 2, _ => show takeS (takeS _ a) b = _; rw [e1]; exact e2
    | 3, _ => show takeS (takeS (takeS _ a) b) c = _; rw [e1, e2]; exact e3
theorem secLo_le {a b : Int} (h : 128 ≤ b) (h2 : a = 224 → 160 ≤ b) (h3 : a = 240 → 144 ≤ b) : secLo a ≤ b := by
  unfold secLo
  by_cases h4 : a = 224
  · rw [if_pos h4]
    exact h2 h4
  · rw [if_neg h4]
    by_cases h5 : a = 240
    · rw [if_pos h5]
      exact h3 h5
    · rw [if_neg h5]
      exact h
theorem le_secHi {a b : Int} (h : b ≤ 191) (h2 : a = 237 → b ≤ 159) (h3 : a = 244 → b ≤ 143) : b ≤ secHi a := by
  unfold secHi
  by_cases h4 : a = 237
  · rw [if_pos h4]
    exact h2 h4
  · rw [if_neg h4]
    by_cases h5 : a = 244
    · rw [if_pos h5]
      exact h3 h5
    · rw [if_neg h5]
      exact h
/-- what a rune is told as -/
def normS (r : Int) : Int := if scalarB r = true then r else 65533
theorem put_whole (r : Int) : Whole (putS r) ∧ runeOf (putS r) = normS r := by
  by_cases k1 : r < 0 ∨ 1114111 < r ∨ 55296 ≤ r ∧ r ≤ 57343
  · have hs : scalarB r = false := by
      unfold scalarB
      simp
      omega
    rw [putS_bad k1]
    unfold normS
    rw [hs]
    exact ⟨⟨by decide, by decide, by decide, by decide, by decide, by decide⟩, rfl⟩
  · have hs : scalarB r = true := by
      unfold scalarB
      simp
      omega
    unfold normS
    rw [hs, if_pos rfl]
    by_cases k2 : r < 128
    · rw [putS_1 (by omega) k2]
      exact ⟨⟨by omega, k2⟩, rfl⟩
    by_cases k3 : r < 2048
    · rw [putS_2 (by omega) k3]
      refine ⟨⟨by omega, by omega, secLo_le (by omega) (by omega) (by omega), le_secHi (by omega) (by omega) (by omega)⟩, ?_⟩
      show (192 + r / 64) % 32 * 64 + (128 + r % 64) % 64 = r
      omega
    by_cases k4 : r < 65536
    · rw [putS_3 (by omega) k4 (by omega)]
      refine ⟨⟨by omega, by omega, secLo_le (by omega) (by omega) (by omega), le_secHi (by omega) (by omega) (by omega), by omega, by omega⟩, ?_⟩
      show (224 + r / 4096) % 16 * 4096 + (128 + r / 64 % 64) % 64 * 64 + (128 + r % 64) % 64 = r
      omega
    · rw [putS_4 (by omega) (by omega)]
      refine ⟨⟨by omega, by omega, secLo_le (by omega) (by omega) (by omega), le_secHi (by omega) (by omega) (by omega), by omega, by omega, by omega, by omega⟩, ?_⟩
      show (240 + r / 262144) % 8 * 262144 + (128 + r / 4096 % 64) % 64 * 4096 + (128 + r / 64 % 64) % 64 * 64 + (128 + r % 64) % 64 = r
      omega
theorem put_of {l : List Int} (h : Whole l) : putS (runeOf l) = l := by
  match l, h with
  | [a], h => exact putS_1 h.1 h.2
  | [a, b], h =>
    obtain ⟨h0, h1, h2, h3⟩ := h
    have hb : 128 ≤ b ∧ b ≤ 191 := by
      unfold secLo secHi at *
      split at h2 <;> split at h3 <;> omega
    show putS (a % 32 * 64 + b % 64) = [a, b]
    rw [putS_2 (by omega) (by omega)]
    congr 1
    · omega
    · congr 1
      omega
  | [a, b, c], h =>
    obtain ⟨h0, h1, h2, h3, h4, h5⟩ := h
    have hb : 128 ≤ b ∧ b ≤ 191 ∧ (a = 224 → 160 ≤ b) ∧ (a = 237 → b ≤ 159) := by
      unfold secLo secHi at *
      split at h2 <;> split at h3 <;> omega
    show putS (a % 16 * 4096 + b % 64 * 64 + c % 64) = [a, b, c]
    rw [putS_3 (by omega) (by omega) (by omega)]
    congr 1
    · omega
    · congr 1
      · omega
      · congr 1
        omega
  | [a, b, c, d], h =>
    obtain ⟨h0, h1, h2, h3, h4, h5, h6, h7⟩ := h
    have hb : 128 ≤ b ∧ b ≤ 191 ∧ (a = 240 → 144 ≤ b) ∧ (a = 244 → b ≤ 143) := by
      unfold secLo secHi at *
      split at h2 <;> split at h3 <;> omega
    show putS (a % 8 * 262144 + b % 64 * 4096 + c % 64 * 64 + d % 64) = [a, b, c, d]
    rw [putS_4 (by omega) (by omega)]
    congr 1
    · omega
    · congr 1
      · omega
      · congr 1
        · omega
        · congr 1
          omega
/-- the items of runes, from a place on -/
def backS (p : Int) : List Int → List Item
  | [] => []
  | r :: l => (⟨normS r, p, p + (putS r).length, false, false⟩ : Item) :: backS (p + (putS r).length) l
theorem feed_back (l : List Int) : ∀ (p : Int) (out : List Item), feedS ⟨[], p, out⟩ (l.flatMap putS) = ⟨[], p + (l.flatMap putS).length, out ++ backS p l⟩ := by
  induction l with
  | nil => intro p out; simp [feedS, backS]
  | cons r l ih =>
    intro p out
    obtain ⟨hw, hr⟩ := put_whole r
    rw [List.flatMap_cons, feedS_app, (feed_whole hw p out).1, ih]
    rw [hr]
    simp only [List.length_append, backS, List.append_assoc, List.singleton_append]
    congr 1
    omega
theorem all_back (l : List Int) : allS (l.flatMap putS) = backS 0 l := by
  unfold allS
  rw [feed_back]
  simp [closeS]
theorem backS_length (l : List Int) : ∀ p, (backS p l).length = l.length := by
  induction l with
  | nil => intro p; rfl
  | cons r l ih => intro p; simp [backS, ih]
theorem backS_at (l : List Int) : ∀ (p : Int) (k : Nat) (h : k < l.length), (backS p l)[k]'(by rw [backS_length]; exact h) = (⟨normS l[k], p + ((l.take k).flatMap putS).length, p + ((l.take k).flatMap putS).length + (putS l[k]).length, false, false⟩ : Item) := by
  induction l with
  | nil => intro p k h; exact absurd h (by simp)
  | cons r l ih =>
    intro p k h
    cases k with
    | zero => simp [backS]
    | succ k =>
      simp only [backS, List.getElem_cons_succ, List.take_succ_cons, List.flatMap_cons, List.length_append]
      rw [ih _ k (by simpa using h)]
      congr 1 <;> omega
theorem putS_len (r : Int) : 1 ≤ (putS r).length ∧ (putS r).length ≤ 4 := by
  have h := (put_whole r).1
  match putS r, h with
  | [a], _ => simp
  | [a, b], _ => simp
  | [a, b, c], _ => simp
  | [a, b, c, d], _ => simp
theorem putS_bytes (r : Int) : ∀ b ∈ putS r, 0 ≤ b ∧ b < 256 := by
  have h := (put_whole r).1
  have hs : ∀ a : Int, 0 ≤ secLo a ∧ secHi a < 256 := fun a => by
    unfold secLo secHi
    constructor
    · by_cases h1 : a = 224
      · rw [if_pos h1]; omega
      · rw [if_neg h1]
        by_cases h2 : a = 240
        · rw [if_pos h2]; omega
        · rw [if_neg h2]; omega
    · by_cases h1 : a = 237
      · rw [if_pos h1]; omega
      · rw [if_neg h1]
        by_cases h2 : a = 244
        · rw [if_pos h2]; omega
        · rw [if_neg h2]; omega
  match putS r, h with
  | [a], h =>
    obtain ⟨h0, h1⟩ := h
    intro x hx
    simp at hx
    omega
  | [a, b], h =>
    obtain ⟨h0, h1, h2, h3⟩ := h
    have := hs a
    intro x hx
    simp at hx
    rcases hx with rfl | rfl <;> omega
  | [a, b, c], h =>
    obtain ⟨h0, h1, h2, h3, h4, h5⟩ := h
    have := hs a
    intro x hx
    simp at hx
    rcases hx with rfl | rfl | rfl <;> omega
  | [a, b, c, d], h =>
    obtain ⟨h0, h1, h2, h3, h4, h5, h6, h7⟩ := h
    have := hs a
    intro x hx
    simp at hx
    rcases hx with rfl | rfl | rfl | rfl <;> omega
theorem flat_len (l : List Int) : (l.flatMap putS).length ≤ 4 * l.length := by
  induction l with
  | nil => simp
  | cons r l ih =>
    have := (putS_len r).2
    rw [List.flatMap_cons, List.length_append, List.length_cons]
    omega
theorem flat_bytes (l : List Int) : ∀ b ∈ l.flatMap putS, 0 ≤ b ∧ b < 256 := by
  intro b hb
  obtain ⟨r, _, hr⟩ := List.mem_flatMap.1 hb
  exact putS_bytes r b hr
/-! the parts -/
def ItemOk (bs : List Int) (p n : Nat) (x : Item) : Prop :=
  0 < n ∧ x.from_ = p ∧ x.to_ = (p : Int) + n ∧ p + n ≤ bs.length ∧ (x.bad = true ∧ n ≤ 3 ∧ x.r = 65533 ∨ x.bad = false ∧ x.more = false ∧ putS x.r = (bs.drop p).take n ∧ -2147483648 ≤ x.r ∧ x.r < 2147483648)
def Chain (bs : List Int) : Nat → List Item → Nat → Prop
  | p, [], q => p = q
  | p, x :: xs, q => ∃ n, ItemOk bs p n x ∧ Chain bs (p + n) xs q
theorem Chain.snoc {bs : List Int} {x : Item} : ∀ {xs : List Item} {p q n : Nat}, Chain bs p xs q → ItemOk bs q n x → Chain bs p (xs ++ [x]) (q + n)
  | [], p, q, n, h, hi => by
    have h : p = q := h
    subst h
    exact ⟨n, hi, rfl⟩
  | y :: ys, p, q, n, h, hi => by
    obtain ⟨m, hm, hc⟩ := h
    exact ⟨m, hm, Chain.snoc hc hi⟩
/-- so much is told, so much is held, so much is to come -/
def Parts (bs : List Int) (s : St) (rest : List Int) : Prop :=
  ∃ p : Nat, s.at_ = p ∧ bs.drop p = s.held ++ rest ∧ p ≤ bs.length ∧ Begun s.held ∧ Chain bs 0 s.out p
theorem runeOf_bounds {l : List Int} (h : Whole l) : -2147483648 ≤ runeOf l ∧ runeOf l < 2147483648 := by
  match l, h with
  | [a], h => exact ⟨by show _ ≤ a; have := h.1; omega, by show a < _; have := h.2; omega⟩
  | [a, b], h => constructor <;> (simp only [runeOf]; omega)
  | [a, b, c], h => constructor <;> (simp only [runeOf]; omega)
  | [a, b, c, d], h => constructor <;> (simp only [runeOf]; omega)
theorem parts_tell {bs : List Int} {held : List Int} {at_ : Int} {out : List Item} {rest : List Int} {bad more : Bool} {p : Nat}
    (h1 : at_ = p) (h2 : bs.drop p = held ++ rest) (h3 : p ≤ bs.length) (h5 : Chain bs 0 out p) (hn : held ≠ []) (hb : bad = true ∧ held.length ≤ 3 ∨ bad = false ∧ more = false ∧ Whole held) :
    Parts bs (tellS ⟨held, at_, out⟩ bad more) rest := by
  have hl := congrArg List.length h2
  rw [List.length_drop, List.length_append] at hl
  have hpos : 0 < held.length := List.length_pos_iff.2 hn
  refine ⟨p + held.length, by simp [tellS, h1], ?_, by omega, trivial, ?_⟩
  · show bs.drop (p + held.length) = [] ++ rest
    rw [← List.drop_drop, h2, List.drop_left']
    · rfl
    · rfl
  · refine Chain.snoc h5 ⟨hpos, h1, by simp [h1], by omega, ?_⟩
    rcases hb with ⟨rfl, h6⟩ | ⟨rfl, rfl, h6⟩
    · exact .inl ⟨rfl, h6, rfl⟩
    · refine .inr ⟨rfl, rfl, ?_, runeOf_bounds h6⟩
      show putS (runeOf held) = _
      rw [put_of h6, h2, List.take_left']
      rfl
theorem parts_more {bs : List Int} {s s' : St} {c : Int} {rest : List Int} (h : Parts bs s (c :: rest)) (h0 : 0 ≤ c) (hm : moreS s c = some s') : Parts bs s' rest := by
  obtain ⟨p, h1, h2, h3, h4, h5⟩ := h
  unfold moreS at hm
  split at hm
  · rename_i hg
    have hgr := begun_grows h4 h0 hg
    split at hm
    · rename_i hz
      cases hm
      exact parts_tell h1 (by rw [h2]; simp) h3 h5 (by simp) (.inr ⟨rfl, rfl, hgr.1 hz⟩)
    · rename_i hz
      cases hm
      exact ⟨p, h1, by rw [h2]; simp, h3, hgr.2 (by simpa using hz), h5⟩
  · cases hm
theorem parts_nil {bs : List Int} {s : St} {c : Int} {rest : List Int} (h : Parts bs s (c :: rest)) (h0 : 0 ≤ c) (hh : s.held = []) : Parts bs (takeNil s c) rest := by
  unfold takeNil
  cases hm : moreS s c with
  | some s' => exact parts_more h h0 hm
  | none =>
    obtain ⟨p, h1, h2, h3, h4, h5⟩ := h
    rw [hh] at h2
    exact parts_tell h1 (by rw [h2]; simp) h3 h5 (by simp) (.inl ⟨rfl, by simp⟩)
theorem parts_take {bs : List Int} {s : St} {c : Int} {rest : List Int} (h : Parts bs s (c :: rest)) (h0 : 0 ≤ c) : Parts bs (takeS s c) rest := by
  unfold takeS
  cases hm : moreS s c with
  | some s' => exact parts_more h h0 hm
  | none =>
    dsimp only
    split
    · rename_i hh
      obtain ⟨p, h1, h2, h3, h4, h5⟩ := h
      rw [hh] at h2
      exact parts_tell h1 (by rw [h2]; simp) h3 h5 (by simp) (.inl ⟨rfl, by simp⟩)
    · rename_i hh
      refine parts_nil ?_ h0 rfl
      obtain ⟨p, h1, h2, h3, h4, h5⟩ := h
      exact parts_tell h1 h2 h3 h5 hh (.inl ⟨rfl, Begun.len (l := s.held) h4⟩)
theorem parts_feed {bs : List Int} (xs : List Int) : ∀ {s : St} {rest : List Int}, Parts bs s (xs ++ rest) → (∀ b ∈ xs, 0 ≤ b) → Parts bs (feedS s xs) rest := by
  induction xs with
  | nil => intro s rest h _; exact h
  | cons c xs ih =>
    intro s rest h hk
    exact ih (s := takeS s c) (parts_take h (hk c (by simp))) (fun b hb => hk b (by simp [hb]))
theorem parts_start (bs : List Int) : Parts bs ⟨[], 0, []⟩ (bs ++ []) := ⟨0, rfl, by simp, Nat.zero_le _, trivial, rfl⟩
theorem parts_all (bs : List Int) (hk : ∀ b ∈ bs, 0 ≤ b) : Chain bs 0 (allS bs) bs.length := by
  have h := parts_feed bs (parts_start bs) hk
  obtain ⟨st, hst⟩ : ∃ st, feedS ⟨[], 0, []⟩ bs = st := ⟨_, rfl⟩
  unfold allS
  rw [hst] at h ⊢
  obtain ⟨held, at_, out⟩ := st
  by_cases hh : held = []
  · subst hh
    obtain ⟨p, h1, h2, h3, h4, h5⟩ := h
    have : bs.length = p := by
      have := congrArg List.length h2
      simp at this
      omega
    rw [this]
    simpa [closeS] using h5
  · obtain ⟨p, h1, h2, h3, h4, h5⟩ := h
    have h6 := parts_tell (more := true) h1 h2 h3 h5 hh (.inl ⟨rfl, Begun.len (l := held) h4⟩)
    obtain ⟨q, k1, k2, k3, k4, k5⟩ := h6
    have : bs.length = q := by
      have := congrArg List.length k2
      simp [tellS] at this
      omega
    rw [this]
    simpa [closeS, hh, tellS] using k5
end Go.Proofs.YtlopjkfhkfbhlaaDoor.Dec
