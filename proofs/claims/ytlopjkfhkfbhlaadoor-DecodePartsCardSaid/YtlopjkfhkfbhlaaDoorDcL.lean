import Derived.Test.YtlopjkfhkfbhlaaDoorDcK
import Derived.Deep.LoopGhost
set_option linter.unusedVariables false
set_option linter.unusedSimpArgs false
namespace Go.Proofs.YtlopjkfhkfbhlaaDoor.Dec
open Go Go.RowKit Go.Proofs.YtlopjkfhkfbhlaaDoorW.PrintWords Go.Proofs.YtlopjkfhkfbhlaaDoorW.PrintLast Go.Proofs.YtlopjkfhkfbhlaaDoorW.PrintMore
theorem ref_second_low (c : Int) (w : World) (h : c < 128) : Calls Tryd.prog 30 #[.int .u8 c] w fun e w' => e = .returned (.tuple #[.int .i64 1, .int .i64 0, .int .i64 0]) ∧ w = w' := by
  go_enter Tryd.func30, Tryd.ntmps30
  go_wp2
  go_ret3
  exact ⟨rfl, rfl⟩
theorem ref_second_none (c : Int) (w : World) (h : 128 ≤ c ∧ c < 194 ∨ 245 ≤ c) : Calls Tryd.prog 30 #[.int .u8 c] w fun e w' => e = .returned (.tuple #[.int .i64 0, .int .i64 0, .int .i64 0]) ∧ w = w' := by
  rcases h with ⟨h1, h2⟩ | h1
  · go_enter Tryd.func30, Tryd.ntmps30
    go_wp2
    go_ret3
    exact ⟨rfl, rfl⟩
  · go_enter Tryd.func30, Tryd.ntmps30
    go_wp2
    go_ret3
    exact ⟨rfl, rfl⟩
theorem ref_second_2 (c : Int) (w : World) (h1 : 194 ≤ c) (h2 : c ≤ 223) : Calls Tryd.prog 30 #[.int .u8 c] w fun e w' => e = .returned (.tuple #[.int .i64 2, .int .i64 (secLo c), .int .i64 (secHi c)]) ∧ w = w' := by
  have e2 : secLo c = 128 := by unfold secLo; rw [if_neg (by omega), if_neg (by omega)]
  have e3 : secHi c = 191 := by unfold secHi; rw [if_neg (by omega), if_neg (by omega)]
  rw [e2, e3]
  clear e2 e3
  go_enter Tryd.func30, Tryd.ntmps30
  go_wp2
  go_ret3
  exact ⟨rfl, rfl⟩
theorem ref_second_3 (c : Int) (w : World) (h1 : 224 ≤ c) (h2 : c ≤ 239) : Calls Tryd.prog 30 #[.int .u8 c] w fun e w' => e = .returned (.tuple #[.int .i64 3, .int .i64 (secLo c), .int .i64 (secHi c)]) ∧ w = w' := by
  by_cases k1 : c = 224
  · subst k1
    go_enter Tryd.func30, Tryd.ntmps30
    go_wp2
    go_ret3
    exact ⟨rfl, rfl⟩
  by_cases k2 : c = 237
  · subst k2
    go_enter Tryd.func30, Tryd.ntmps30
    go_wp2
    go_ret3
    exact ⟨rfl, rfl⟩
  have e2 : secLo c = 128 := by unfold secLo; rw [if_neg (by omega), if_neg (by omega)]
  have e3 : secHi c = 191 := by unfold secHi; rw [if_neg (by omega), if_neg (by omega)]
  rw [e2, e3]
  have H1 := beq_eq_false_iff_ne.2 k1
  have H2 := beq_eq_false_iff_ne.2 k2
  have h3 : 225 ≤ c := by omega
  clear e2 e3 k1 k2
  go_enter Tryd.func30, Tryd.ntmps30
  go_wp2
  go_ret3
  exact ⟨rfl, rfl⟩
theorem ref_second_4 (c : Int) (w : World) (h1 : 240 ≤ c) (h2 : c ≤ 244) : Calls Tryd.prog 30 #[.int .u8 c] w fun e w' => e = .returned (.tuple #[.int .i64 4, .int .i64 (secLo c), .int .i64 (secHi c)]) ∧ w = w' := by
  by_cases k1 : c = 240
  · subst k1
    go_enter Tryd.func30, Tryd.ntmps30
    go_wp2
    go_ret3
    exact ⟨rfl, rfl⟩
  by_cases k2 : c = 244
  · subst k2
    go_enter Tryd.func30, Tryd.ntmps30
    go_wp2
    go_ret3
    exact ⟨rfl, rfl⟩
  have e2 : secLo c = 128 := by unfold secLo; rw [if_neg (by omega), if_neg (by omega)]
  have e3 : secHi c = 191 := by unfold secHi; rw [if_neg (by omega), if_neg (by omega)]
  rw [e2, e3]
  have H1 := beq_eq_false_iff_ne.2 k1
  have H2 := beq_eq_false_iff_ne.2 k2
  have h3 : 241 ≤ c := by omega
  have h4 : c ≤ 243 := by omega
  clear e2 e3 k1 k2
  go_enter Tryd.func30, Tryd.ntmps30
  go_wp2
  go_ret3
  exact ⟨rfl, rfl⟩
/-- what stands at the head of some bytes: how many bytes it has, its rune, bad, more, and whether that is sure -/
def goS (n : Int) : List Int → List Int → Nat × Int × Bool × Bool × Bool
  | held, [] => (held.length, 65533, true, true, false)
  | held, x :: t => if growOk held x = true then (if ((held.length : Int) + 1 = n) then (held.length + 1, runeOf (held ++ [x]), false, false, true) else goS n (held ++ [x]) t) else (held.length, 65533, true, true, true)
def oneS : List Int → Nat × Int × Bool × Bool × Bool
  | [] => (0, 65533, true, true, false)
  | a :: t => if longF a = 0 then (1, 65533, true, false, true) else if longF a = 1 then (1, a, false, false, true) else goS (longF a) [a] t
theorem bytes_at (s : ByteArray) (k : Nat) (h : k < s.size) : ((s[k]'h).toNat : Int) = (bytesOf s)[k]'(by simpa [bytesOf] using h) := by
  simp [bytesOf]
  rfl
theorem bytes_range (s : ByteArray) (x : Int) (h : x ∈ bytesOf s) : 0 ≤ x ∧ x ≤ 255 := by
  simp only [bytesOf, List.mem_map] at h
  obtain ⟨b, _, rfl⟩ := h
  have := b.toNat_lt
  omega
set_option maxHeartbeats 400000 in
theorem one_none (s : ByteArray) (p : Nat) (hp : p < s.size) (hs : s.size ≤ 1000000000) (w : World) (a : Int) (ha : ((s[p]'hp).toNat : Int) = a) (hz : 128 ≤ a ∧ a < 194 ∨ 245 ≤ a) :
    Calls Tryd.prog 26 #[.string s, .int .i64 p] w fun e w' => e = .returned (.tuple #[.agg #[.int .i32 65533, .int .i64 p, .int .i64 (p + 1), .bool true, .bool false], .bool true]) ∧ Below w.heap.size w w' := by
  have HZ := Aside0.mk hz
  clear hz
  go_enter Tryd.func26, Tryd.ntmps26
  go_wp2_with (go_at_call 30; refine (ref_second_none _ _ HZ.out).mono ?_; rintro e w1 ⟨rfl, rfl⟩)
  exact bodyPost_ret (v := .tuple #[.agg #[.int .i32 65533, .int .i64 p, .int .i64 (p + 1), .bool true, .bool false], .bool true]) (by simp [results, Tryd.results26, go_sem]) rfl ⟨rfl, below_alloc (Below.refl _ _) _⟩
set_option maxHeartbeats 400000 in
theorem one_low (s : ByteArray) (p : Nat) (hp : p < s.size) (hs : s.size ≤ 1000000000) (w : World) (a : Int) (ha : ((s[p]'hp).toNat : Int) = a) (h0 : 0 ≤ a) (hz : a < 128) :
    Calls Tryd.prog 26 #[.string s, .int .i64 p] w fun e w' => e = .returned (.tuple #[.agg #[.int .i32 a, .int .i64 p, .int .i64 (p + 1), .bool false, .bool false], .bool true]) ∧ Below w.heap.size w w' := by
  go_enter Tryd.func26, Tryd.ntmps26
  go_wp2_with (go_at_call 30; refine (ref_second_low _ _ hz).mono ?_; rintro e w1 ⟨rfl, rfl⟩)
  go_loop [9, 10] (fun r i => r = .int .i32 a ∧ i = .int .i64 1) (fun _ _ => 0)
  case atStart => exact ⟨rfl, rfl⟩
  case round =>
    obtain ⟨rfl, rfl⟩ := hrel
    go_wp2
    exact bodyPost_ret (v := .tuple #[.agg #[.int .i32 a, .int .i64 p, .int .i64 (p + 1), .bool false, .bool false], .bool true]) (by simp [results, Tryd.results26, go_sem]) rfl ⟨rfl, below_alloc (Below.refl _ _) _⟩
def accN (m : Int) : List Int → Int
  | [] => 0
  | a :: t => t.foldl (fun r c => r * 64 + c % 64) (a % m)
theorem i64_and63 {n : Int} (h0 : 0 ≤ n) (h1 : n < 256) : bits .and .i64 n 63 = n % 64 :=
  bits_mask .i64 8 (by decide) (fun n _ _ => by rw [IntKind.wrap_i64]; omega) 6 (by decide) n h0 (by simpa using h1)
theorem accN_snoc (m : Int) (l : List Int) (x : Int) (h : l ≠ []) : accN m (l ++ [x]) = accN m l * 64 + x % 64 := by
  cases l with
  | nil => exact absurd rfl h
  | cons a t => simp [accN, List.foldl_append]
theorem drop_at (s : ByteArray) (k : Nat) (h : k < s.size) (x : Int) (hx : ((s[k]'h).toNat : Int) = x) : (bytesOf s).drop k = x :: (bytesOf s).drop (k + 1) := by
  have hk : k < (bytesOf s).length := by rw [bytesOf_length]; exact h
  rw [List.drop_eq_getElem_cons hk, ← bytes_at s k h, hx]
def VB (k : Nat) (v : Int) : Prop := (k = 1 → v ≤ 31) ∧ (k = 2 → v ≤ 2047) ∧ (k = 3 → v ≤ 131071) ∧ (k = 4 → v ≤ 8388607)
theorem VB.next {k : Nat} {v x : Int} (h : VB k v) (h1 : 1 ≤ k) (h2 : k ≤ 3) : VB (k + 1) (v * 64 + x % 64) := by unfold VB at *; omega
theorem VB.le {k : Nat} {v : Int} (h : VB k v) (h1 : 1 ≤ k) (h2 : k ≤ 4) : v ≤ 8388607 := by unfold VB at h; omega
/-- one round's state of the document's One: k bytes are there, v their rune so far -/
def OneRel (s : ByteArray) (p n : Nat) (m a : Int) (res : Nat × Int × Bool × Bool × Bool) (k : Nat) (v : Int) : Prop :=
  (k < n → ∃ held : List Int, held.length = k ∧ held.headD 0 = a ∧ accN m held = v ∧ goS n held ((bytesOf s).drop (p + k)) = res) ∧ p + k ≤ s.size ∧ (k = n → res = (n, v, false, false, true))
theorem OneRel.start {s : ByteArray} {p n : Nat} {m a : Int} {res : Nat × Int × Bool × Bool × Bool} (hn : 1 < n) (hp : p < s.size) (h : goS n [a] ((bytesOf s).drop (p + 1)) = res) : OneRel s p n m a res 1 (a % m) :=
  ⟨fun _ => ⟨[a], rfl, rfl, rfl, h⟩, by omega, fun h => by omega⟩
theorem goS_end {n : Int} {held l : List Int} {k nn : Nat} {rr : Int} {bad more sure : Bool} (h : goS n held l = (nn, rr, bad, more, sure)) (hl : held.length = k) (he : l = []) : k = nn ∧ rr = 65533 ∧ bad = true ∧ more = true ∧ sure = false := by
  subst he
  simp only [goS, Prod.mk.injEq] at h
  exact ⟨by omega, h.2.1.symm, h.2.2.1.symm, h.2.2.2.1.symm, h.2.2.2.2.symm⟩
theorem goS_bad {n : Int} {held l t : List Int} {x : Int} {k nn : Nat} {rr : Int} {bad more sure : Bool} (h : goS n held l = (nn, rr, bad, more, sure)) (hl : held.length = k) (he : l = x :: t) (hg : growOk held x = false) : k = nn ∧ rr = 65533 ∧ bad = true ∧ more = true ∧ sure = true := by
  subst he
  simp only [goS, hg, Bool.false_eq_true, if_false, Prod.mk.injEq] at h
  exact ⟨by omega, h.2.1.symm, h.2.2.1.symm, h.2.2.2.1.symm, h.2.2.2.2.symm⟩
theorem grow_one {held : List Int} {a x : Int} (hl : held.length = 1) (hh : held.headD 0 = a) : growOk held x = true ↔ secLo a ≤ x ∧ x ≤ secHi a := by
  match held, hl with
  | [b], _ =>
    have : b = a := hh
    subst this
    simp [growOk]
theorem grow_two {held : List Int} {k : Nat} {x : Int} (hl : held.length = k) (hk : 1 < k) : growOk held x = true ↔ 128 ≤ x ∧ x ≤ 191 := by
  match held, hl with
  | [], h => simp at h; omega
  | [b], h => simp at h; omega
  | b :: c :: t, _ => simp [growOk]
theorem rune_acc {n : Nat} {m : Int} {l : List Int} (hn : n = 2 ∧ m = 32 ∨ n = 3 ∧ m = 16 ∨ n = 4 ∧ m = 8) (hl : l.length = n) : runeOf l = accN m l := by
  rcases hn with ⟨rfl, rfl⟩ | ⟨rfl, rfl⟩ | ⟨rfl, rfl⟩
  · match l, hl with
    | [a, b], _ => simp [runeOf, accN]
  · match l, hl with
    | [a, b, c], _ => simp [runeOf, accN]; omega
  · match l, hl with
    | [a, b, c, d], _ => simp [runeOf, accN]; omega
theorem OneRel.next {s : ByteArray} {p n k : Nat} {m a x v : Int} {held : List Int} {res : Nat × Int × Bool × Bool × Bool} (hn : n = 2 ∧ m = 32 ∨ n = 3 ∧ m = 16 ∨ n = 4 ∧ m = 8) (hlt : p + k < s.size)
    (hd : (bytesOf s).drop (p + k) = x :: (bytesOf s).drop (p + k + 1)) (hl : held.length = k) (hh : held.headD 0 = a) (hacc : accN m held = v) (hgo : goS n held ((bytesOf s).drop (p + k)) = res) (hg : growOk held x = true) (hk : k < n) (hk1 : 1 ≤ k) :
    OneRel s p n m a res (k + 1) (v * 64 + x % 64) := by
  have hne : held ≠ [] := by
    intro e
    subst e
    simp at hl
    omega
  have hacc' : accN m (held ++ [x]) = v * 64 + x % 64 := by rw [accN_snoc m held x hne, hacc]
  rw [hd] at hgo
  simp only [goS, hg, if_true] at hgo
  refine ⟨fun hlt => ⟨held ++ [x], by simp [hl], ?_, hacc', ?_⟩, by omega, fun he => ?_⟩
  · cases held with
    | nil => exact absurd rfl hne
    | cons b r => exact hh
  · rw [if_neg (by omega)] at hgo
    rw [← hgo, Nat.add_assoc]
  · rw [if_pos (by omega)] at hgo
    rw [← hgo, rune_acc hn (by simp; omega), hacc']
    simp
    omega
set_option maxHeartbeats 2000000 in
set_option maxRecDepth 100000 in
theorem one_2 (s : ByteArray) (p : Nat) (hp : p < s.size) (hs : s.size ≤ 1000000000) (w : World) (a : Int) (ha : ((s[p]'hp).toNat : Int) = a) (h1 : 194 ≤ a) (h2 : a ≤ 223) (nn : Nat) (rr : Int) (bad more sure : Bool) (hg : goS 2 [a] ((bytesOf s).drop (p + 1)) = (nn, rr, bad, more, sure)) :
    Calls Tryd.prog 26 #[.string s, .int .i64 p] w fun e w' => e = .returned (.tuple #[.agg #[.int .i32 rr, .int .i64 p, .int .i64 (p + nn), .bool bad, .bool more], .bool sure]) ∧ Below w.heap.size w w' := by
  have HG := Aside0.mk hg
  have hmask : bits .and .i32 a 31 = a % 32 := bits_mask .i32 8 (by decide) (fun n _ _ => by rw [IntKind.wrap_i32]; omega) 5 (by decide) a (by omega) (by simp; omega)
  clear hg
  go_enter Tryd.func26, Tryd.ntmps26
  go_wp2_with (go_at_call 30; refine (ref_second_2 _ _ h1 h2).mono ?_; rintro e w1 ⟨rfl, rfl⟩)
  go_loop [9, 10] (fun r i => ∃ (k : Nat) (v : Int), i = .int .i64 k ∧ r = .int .i32 v ∧ 1 ≤ k ∧ k ≤ 2 ∧ 0 ≤ v ∧ Aside0 (VB k v) ∧ Aside0 (OneRel s p 2 32 a (nn, rr, bad, more, sure) k v)) (fun _ i => 2 - (intOf i).toNat)
  case atStart => exact ⟨1, a % 32, rfl, rfl, by omega, by omega, by omega, ⟨by unfold VB; omega⟩, ⟨OneRel.start (by decide) hp HG.out⟩⟩
  case round =>
    obtain ⟨k, v, rfl, rfl, hk1, hk2, hv0, HVB, HR⟩ := hrel
    have hv1 := HVB.out.le hk1 (by omega)
    have HMM := Aside0.mk hmask
    clear hmask
    by_cases hkn : k < 2
    · obtain ⟨held, hl, hh, hacc, hgo⟩ := HR.out.1 hkn
      by_cases hend : p + k = s.size
      · have hres := goS_end hgo hl (by rw [List.drop_of_length_le (by rw [bytesOf_length]; omega)])
        obtain ⟨rfl, rfl, rfl, rfl, rfl⟩ := hres
        have hee : ((p : Int) + (k : Int) == (s.size : Int)) = true := beq_iff_eq.2 (by omega)
        clear hgo hacc hh
        go_wp2
        exact bodyPost_ret (v := .tuple #[.agg #[.int .i32 65533, .int .i64 p, .int .i64 (p + k), .bool true, .bool true], .bool false]) (by simp [results, Tryd.results26, go_sem]) rfl ⟨rfl, below_alloc (Below.refl _ _) _⟩
      · have hlt : p + k < s.size := by
          have := HR.out.2.1
          omega
        have hee : ((p : Int) + (k : Int) == (s.size : Int)) = false := beq_eq_false_iff_ne.2 (by omega)
        obtain ⟨x, hx⟩ : ∃ x : Int, ((s[p + k]'hlt).toNat : Int) = x := ⟨_, rfl⟩
        have hx0 : 0 ≤ x := by omega
        have hx1 : x < 256 := by have := (s[p + k]'hlt).toNat_lt; omega
        have hdrop := drop_at s (p + k) hlt x hx
        have h63 := i64_and63 hx0 hx1
        by_cases hgr : growOk held x = true
        · have hnext := OneRel.next (by decide) hlt hdrop hl hh hacc hgo hgr hkn hk1
          have HN := Aside0.mk hnext
          clear hgo hacc
          by_cases hk : k = 1
          · subst hk
            have hb := (grow_one hl hh).1 hgr
            have hb1 := hb.1
            have hb2 := hb.2
            clear hb hgr hh hnext
            go_wp2
            go_round
            case rel => exact ⟨1 + 1, v * 64 + x % 64, rfl, rfl, by omega, by omega, by omega, ⟨HVB.out.next (by omega) (by omega)⟩, HN⟩
            case measure => simp [intOf]; try omega
          · omega
        · have hres := goS_bad hgo hl hdrop (Bool.eq_false_iff.2 hgr)
          obtain ⟨rfl, rfl, rfl, rfl, rfl⟩ := hres
          clear hgo hacc
          by_cases hk : k = 1
          · subst hk
            have hb : ¬ (secLo a ≤ x ∧ x ≤ secHi a) := fun h => hgr ((grow_one hl hh).2 h)
            by_cases hb1 : x < secLo a
            · clear hb hgr hh
              go_wp2
              exact bodyPost_ret (v := .tuple #[.agg #[.int .i32 65533, .int .i64 p, .int .i64 (p + 1), .bool true, .bool true], .bool true]) (by simp [results, Tryd.results26, go_sem]) rfl ⟨rfl, below_alloc (Below.refl _ _) _⟩
            · have hb2 : secHi a < x := by omega
              clear hb hgr hh
              go_wp2
              exact bodyPost_ret (v := .tuple #[.agg #[.int .i32 65533, .int .i64 p, .int .i64 (p + 1), .bool true, .bool true], .bool true]) (by simp [results, Tryd.results26, go_sem]) rfl ⟨rfl, below_alloc (Below.refl _ _) _⟩
          · omega
    · obtain rfl : k = 2 := by omega
      have hres := HR.out.2.2 rfl
      simp only [Prod.mk.injEq] at hres
      obtain ⟨rfl, rfl, rfl, rfl, rfl⟩ := hres
      go_wp2
      exact bodyPost_ret (v := .tuple #[.agg #[.int .i32 rr, .int .i64 p, .int .i64 (p + 2), .bool false, .bool false], .bool true]) (by simp [results, Tryd.results26, go_sem]) rfl ⟨rfl, below_alloc (Below.refl _ _) _⟩
set_option maxHeartbeats 2000000 in
set_option maxRecDepth 100000 in
theorem one_3 (s : ByteArray) (p : Nat) (hp : p < s.size) (hs : s.size ≤ 1000000000) (w : World) (a : Int) (ha : ((s[p]'hp).toNat : Int) = a) (h1 : 224 ≤ a) (h2 : a ≤ 239) (nn : Nat) (rr : Int) (bad more sure : Bool) (hg : goS 3 [a] ((bytesOf s).drop (p + 1)) = (nn, rr, bad, more, sure)) :
    Calls Tryd.prog 26 #[.string s, .int .i64 p] w fun e w' => e = .returned (.tuple #[.agg #[.int .i32 rr, .int .i64 p, .int .i64 (p + nn), .bool bad, .bool more], .bool sure]) ∧ Below w.heap.size w w' := by
  have HG := Aside0.mk hg
  have hmask : bits .and .i32 a 15 = a % 16 := bits_mask .i32 8 (by decide) (fun n _ _ => by rw [IntKind.wrap_i32]; omega) 4 (by decide) a (by omega) (by simp; omega)
  clear hg
  go_enter Tryd.func26, Tryd.ntmps26
  go_wp2_with (go_at_call 30; refine (ref_second_3 _ _ h1 h2).mono ?_; rintro e w1 ⟨rfl, rfl⟩)
  go_loop [9, 10] (fun r i => ∃ (k : Nat) (v : Int), i = .int .i64 k ∧ r = .int .i32 v ∧ 1 ≤ k ∧ k ≤ 3 ∧ 0 ≤ v ∧ Aside0 (VB k v) ∧ Aside0 (OneRel s p 3 16 a (nn, rr, bad, more, sure) k v)) (fun _ i => 3 - (intOf i).toNat)
  case atStart => exact ⟨1, a % 16, rfl, rfl, by omega, by omega, by omega, ⟨by unfold VB; omega⟩, ⟨OneRel.start (by decide) hp HG.out⟩⟩
  case round =>
    obtain ⟨k, v, rfl, rfl, hk1, hk2, hv0, HVB, HR⟩ := hrel
    have hv1 := HVB.out.le hk1 (by omega)
    have HMM := Aside0.mk hmask
    clear hmask
    by_cases hkn : k < 3
    · obtain ⟨held, hl, hh, hacc, hgo⟩ := HR.out.1 hkn
      by_cases hend : p + k = s.size
      · have hres := goS_end hgo hl (by rw [List.drop_of_length_le (by rw [bytesOf_length]; omega)])
        obtain ⟨rfl, rfl, rfl, rfl, rfl⟩ := hres
        have hee : ((p : Int) + (k : Int) == (s.size : Int)) = true := beq_iff_eq.2 (by omega)
        clear hgo hacc hh
        go_wp2
        exact bodyPost_ret (v := .tuple #[.agg #[.int .i32 65533, .int .i64 p, .int .i64 (p + k), .bool true, .bool true], .bool false]) (by simp [results, Tryd.results26, go_sem]) rfl ⟨rfl, below_alloc (Below.refl _ _) _⟩
      · have hlt : p + k < s.size := by
          have := HR.out.2.1
          omega
        have hee : ((p : Int) + (k : Int) == (s.size : Int)) = false := beq_eq_false_iff_ne.2 (by omega)
        obtain ⟨x, hx⟩ : ∃ x : Int, ((s[p + k]'hlt).toNat : Int) = x := ⟨_, rfl⟩
        have hx0 : 0 ≤ x := by omega
        have hx1 : x < 256 := by have := (s[p + k]'hlt).toNat_lt; omega
        have hdrop := drop_at s (p + k) hlt x hx
        have h63 := i64_and63 hx0 hx1
        by_cases hgr : growOk held x = true
        · have hnext := OneRel.next (by decide) hlt hdrop hl hh hacc hgo hgr hkn hk1
          have HN := Aside0.mk hnext
          clear hgo hacc
          by_cases hk : k = 1
          · subst hk
            have hb := (grow_one hl hh).1 hgr
            have hb1 := hb.1
            have hb2 := hb.2
            clear hb hgr hh hnext
            go_wp2
            go_round
            case rel => exact ⟨1 + 1, v * 64 + x % 64, rfl, rfl, by omega, by omega, by omega, ⟨HVB.out.next (by omega) (by omega)⟩, HN⟩
            case measure => simp [intOf]; try omega
          · have hk3 : 1 < k := by omega
            have hke : ((k : Int) == 1) = false := beq_eq_false_iff_ne.2 (by omega)
            have hb := (grow_two hl hk3).1 hgr
            have hb1 := hb.1
            have hb2 := hb.2
            clear hb hgr hh hnext
            go_wp2
            go_round
            case rel => exact ⟨k + 1, v * 64 + x % 64, by go_num, rfl, by omega, by omega, by omega, ⟨HVB.out.next (by omega) (by omega)⟩, HN⟩
            case measure => simp [intOf]; omega
        · have hres := goS_bad hgo hl hdrop (Bool.eq_false_iff.2 hgr)
          obtain ⟨rfl, rfl, rfl, rfl, rfl⟩ := hres
          clear hgo hacc
          by_cases hk : k = 1
          · subst hk
            have hb : ¬ (secLo a ≤ x ∧ x ≤ secHi a) := fun h => hgr ((grow_one hl hh).2 h)
            by_cases hb1 : x < secLo a
            · clear hb hgr hh
              go_wp2
              exact bodyPost_ret (v := .tuple #[.agg #[.int .i32 65533, .int .i64 p, .int .i64 (p + 1), .bool true, .bool true], .bool true]) (by simp [results, Tryd.results26, go_sem]) rfl ⟨rfl, below_alloc (Below.refl _ _) _⟩
            · have hb2 : secHi a < x := by omega
              clear hb hgr hh
              go_wp2
              exact bodyPost_ret (v := .tuple #[.agg #[.int .i32 65533, .int .i64 p, .int .i64 (p + 1), .bool true, .bool true], .bool true]) (by simp [results, Tryd.results26, go_sem]) rfl ⟨rfl, below_alloc (Below.refl _ _) _⟩
          · have hk3 : 1 < k := by omega
            have hke : ((k : Int) == 1) = false := beq_eq_false_iff_ne.2 (by omega)
            have hb : ¬ (128 ≤ x ∧ x ≤ 191) := fun h => hgr ((grow_two hl hk3).2 h)
            by_cases hb1 : x < 128
            · clear hb hgr hh
              go_wp2
              exact bodyPost_ret (v := .tuple #[.agg #[.int .i32 65533, .int .i64 p, .int .i64 (p + k), .bool true, .bool true], .bool true]) (by simp [results, Tryd.results26, go_sem]) rfl ⟨rfl, below_alloc (Below.refl _ _) _⟩
            · have hb2 : 191 < x := by omega
              clear hb hgr hh
              go_wp2
              exact bodyPost_ret (v := .tuple #[.agg #[.int .i32 65533, .int .i64 p, .int .i64 (p + k), .bool true, .bool true], .bool true]) (by simp [results, Tryd.results26, go_sem]) rfl ⟨rfl, below_alloc (Below.refl _ _) _⟩
    · obtain rfl : k = 3 := by omega
      have hres := HR.out.2.2 rfl
      simp only [Prod.mk.injEq] at hres
      obtain ⟨rfl, rfl, rfl, rfl, rfl⟩ := hres
      go_wp2
      exact bodyPost_ret (v := .tuple #[.agg #[.int .i32 rr, .int .i64 p, .int .i64 (p + 3), .bool false, .bool false], .bool true]) (by simp [results, Tryd.results26, go_sem]) rfl ⟨rfl, below_alloc (Below.refl _ _) _⟩
set_option maxHeartbeats 2000000 in
set_option maxRecDepth 100000 in
theorem one_4 (s : ByteArray) (p : Nat) (hp : p < s.size) (hs : s.size ≤ 1000000000) (w : World) (a : Int) (ha : ((s[p]'hp).toNat : Int) = a) (h1 : 240 ≤ a) (h2 : a ≤ 244) (nn : Nat) (rr : Int) (bad more sure : Bool) (hg : goS 4 [a] ((bytesOf s).drop (p + 1)) = (nn, rr, bad, more, sure)) :
    Calls Tryd.prog 26 #[.string s, .int .i64 p] w fun e w' => e = .returned (.tuple #[.agg #[.int .i32 rr, .int .i64 p, .int .i64 (p + nn), .bool bad, .bool more], .bool sure]) ∧ Below w.heap.size w w' := by
  have HG := Aside0.mk hg
  have hmask : bits .and .i32 a 7 = a % 8 := bits_mask .i32 8 (by decide) (fun n _ _ => by rw [IntKind.wrap_i32]; omega) 3 (by decide) a (by omega) (by simp; omega)
  clear hg
  go_enter Tryd.func26, Tryd.ntmps26
  go_wp2_with (go_at_call 30; refine (ref_second_4 _ _ h1 h2).mono ?_; rintro e w1 ⟨rfl, rfl⟩)
  go_loop [9, 10] (fun r i => ∃ (k : Nat) (v : Int), i = .int .i64 k ∧ r = .int .i32 v ∧ 1 ≤ k ∧ k ≤ 4 ∧ 0 ≤ v ∧ Aside0 (VB k v) ∧ Aside0 (OneRel s p 4 8 a (nn, rr, bad, more, sure) k v)) (fun _ i => 4 - (intOf i).toNat)
  case atStart => exact ⟨1, a % 8, rfl, rfl, by omega, by omega, by omega, ⟨by unfold VB; omega⟩, ⟨OneRel.start (by decide) hp HG.out⟩⟩
  case round =>
    obtain ⟨k, v, rfl, rfl, hk1, hk2, hv0, HVB, HR⟩ := hrel
    have hv1 := HVB.out.le hk1 (by omega)
    have HMM := Aside0.mk hmask
    clear hmask
    by_cases hkn : k < 4
    · obtain ⟨held, hl, hh, hacc, hgo⟩ := HR.out.1 hkn
      by_cases hend : p + k = s.size
      · have hres := goS_end hgo hl (by rw [List.drop_of_length_le (by rw [bytesOf_length]; omega)])
        obtain ⟨rfl, rfl, rfl, rfl, rfl⟩ := hres
        have hee : ((p : Int) + (k : Int) == (s.size : Int)) = true := beq_iff_eq.2 (by omega)
        clear hgo hacc hh
        go_wp2
        exact bodyPost_ret (v := .tuple #[.agg #[.int .i32 65533, .int .i64 p, .int .i64 (p + k), .bool true, .bool true], .bool false]) (by simp [results, Tryd.results26, go_sem]) rfl ⟨rfl, below_alloc (Below.refl _ _) _⟩
      · have hlt : p + k < s.size := by
          have := HR.out.2.1
          omega
        have hee : ((p : Int) + (k : Int) == (s.size : Int)) = false := beq_eq_false_iff_ne.2 (by omega)
        obtain ⟨x, hx⟩ : ∃ x : Int, ((s[p + k]'hlt).toNat : Int) = x := ⟨_, rfl⟩
        have hx0 : 0 ≤ x := by omega
        have hx1 : x < 256 := by have := (s[p + k]'hlt).toNat_lt; omega
        have hdrop := drop_at s (p + k) hlt x hx
        have h63 := i64_and63 hx0 hx1
        by_cases hgr : growOk held x = true
        · have hnext := OneRel.next (by decide) hlt hdrop hl hh hacc hgo hgr hkn hk1
          have HN := Aside0.mk hnext
          clear hgo hacc
          by_cases hk : k = 1
          · subst hk
            have hb := (grow_one hl hh).1 hgr
            have hb1 := hb.1
            have hb2 := hb.2
            clear hb hgr hh hnext
            go_wp2
            go_round
            case rel => exact ⟨1 + 1, v * 64 + x % 64, rfl, rfl, by omega, by omega, by omega, ⟨HVB.out.next (by omega) (by omega)⟩, HN⟩
            case measure => simp [intOf]; try omega
          · have hk3 : 1 < k := by omega
            have hke : ((k : Int) == 1) = false := beq_eq_false_iff_ne.2 (by omega)
            have hb := (grow_two hl hk3).1 hgr
            have hb1 := hb.1
            have hb2 := hb.2
            clear hb hgr hh hnext
            go_wp2
            go_round
            case rel => exact ⟨k + 1, v * 64 + x % 64, by go_num, rfl, by omega, by omega, by omega, ⟨HVB.out.next (by omega) (by omega)⟩, HN⟩
            case measure => simp [intOf]; omega
        · have hres := goS_bad hgo hl hdrop (Bool.eq_false_iff.2 hgr)
          obtain ⟨rfl, rfl, rfl, rfl, rfl⟩ := hres
          clear hgo hacc
          by_cases hk : k = 1
          · subst hk
            have hb : ¬ (secLo a ≤ x ∧ x ≤ secHi a) := fun h => hgr ((grow_one hl hh).2 h)
            by_cases hb1 : x < secLo a
            · clear hb hgr hh
              go_wp2
              exact bodyPost_ret (v := .tuple #[.agg #[.int .i32 65533, .int .i64 p, .int .i64 (p + 1), .bool true, .bool true], .bool true]) (by simp [results, Tryd.results26, go_sem]) rfl ⟨rfl, below_alloc (Below.refl _ _) _⟩
            · have hb2 : secHi a < x := by omega
              clear hb hgr hh
              go_wp2
              exact bodyPost_ret (v := .tuple #[.agg #[.int .i32 65533, .int .i64 p, .int .i64 (p + 1), .bool true, .bool true], .bool true]) (by simp [results, Tryd.results26, go_sem]) rfl ⟨rfl, below_alloc (Below.refl _ _) _⟩
          · have hk3 : 1 < k := by omega
            have hke : ((k : Int) == 1) = false := beq_eq_false_iff_ne.2 (by omega)
            have hb : ¬ (128 ≤ x ∧ x ≤ 191) := fun h => hgr ((grow_two hl hk3).2 h)
            by_cases hb1 : x < 128
            · clear hb hgr hh
              go_wp2
              exact bodyPost_ret (v := .tuple #[.agg #[.int .i32 65533, .int .i64 p, .int .i64 (p + k), .bool true, .bool true], .bool true]) (by simp [results, Tryd.results26, go_sem]) rfl ⟨rfl, below_alloc (Below.refl _ _) _⟩
            · have hb2 : 191 < x := by omega
              clear hb hgr hh
              go_wp2
              exact bodyPost_ret (v := .tuple #[.agg #[.int .i32 65533, .int .i64 p, .int .i64 (p + k), .bool true, .bool true], .bool true]) (by simp [results, Tryd.results26, go_sem]) rfl ⟨rfl, below_alloc (Below.refl _ _) _⟩
    · obtain rfl : k = 4 := by omega
      have hres := HR.out.2.2 rfl
      simp only [Prod.mk.injEq] at hres
      obtain ⟨rfl, rfl, rfl, rfl, rfl⟩ := hres
      go_wp2
      exact bodyPost_ret (v := .tuple #[.agg #[.int .i32 rr, .int .i64 p, .int .i64 (p + 4), .bool false, .bool false], .bool true]) (by simp [results, Tryd.results26, go_sem]) rfl ⟨rfl, below_alloc (Below.refl _ _) _⟩
end Go.Proofs.YtlopjkfhkfbhlaaDoor.Dec
