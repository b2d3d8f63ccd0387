import Derived.Test.YtlopjkfhkfbhlaaDoorDcC
import Derived.Lib.Hide
set_option linter.unusedVariables false
set_option linter.unusedSimpArgs false
namespace Go.Proofs.YtlopjkfhkfbhlaaDoor.Dec
open Go Go.RowKit Go.Proofs.YtlopjkfhkfbhlaaDoorW.PrintWords Go.Proofs.YtlopjkfhkfbhlaaDoorW.PrintLast Go.Proofs.YtlopjkfhkfbhlaaDoorW.PrintMore
/-- a whole rune's bytes -/
def Whole : List Int → Prop
  | [a] => 0 ≤ a ∧ a < 128
  | [a, b] => 194 ≤ a ∧ a ≤ 223 ∧ secLo a ≤ b ∧ b ≤ secHi a
  | [a, b, c] => 224 ≤ a ∧ a ≤ 239 ∧ secLo a ≤ b ∧ b ≤ secHi a ∧ 128 ≤ c ∧ c ≤ 191
  | [a, b, c, d] => 240 ≤ a ∧ a ≤ 244 ∧ secLo a ≤ b ∧ b ≤ secHi a ∧ 128 ≤ c ∧ c ≤ 191 ∧ 128 ≤ d ∧ d ≤ 191
  | _ => False
def runeOf : List Int → Int
  | [a] => a
  | [a, b] => a % 32 * 64 + b % 64
  | [a, b, c] => a % 16 * 4096 + b % 64 * 64 + c % 64
  | [a, b, c, d] => a % 8 * 262144 + b % 64 * 4096 + c % 64 * 64 + d % 64
  | _ => 65533
theorem tab_at {w : World} (hT : Tabs w) {a : Int} {X : Nat} (h0 : 0 ≤ a) (h1 : a < 256) (hX : Lib.firstT a.toNat = X) : w.cell? ⟨0, a.toNat, none⟩ = some (.int .u8 X) := by
  rw [← hX]; exact hT.1 _ (by omega)
set_option maxHeartbeats 400000 in
theorem rune_ascii (g o : Nat) (a : Int) (m n : Nat) (hm : 0 < m) (w : World) (h0 : 0 ≤ a) (h1 : a < 128) (hc0 : w.cell? ⟨g, o, none⟩ = some (.int .u8 a)) :
    Calls Tryd.prog 29 #[.slice (some ⟨g, o, none⟩) m n] w fun e w' => e = .returned (.tuple #[.int .i32 a, .int .i64 1]) ∧ w = w' := by
  go_enter Tryd.func29, Tryd.ntmps29
  go_wp2
  go_loop [8] (fun i => i = .int .i64 0) (fun _ => 0)
  case atStart => rfl
  case round =>
    subst hrel
    go_wp2
    go_ret2
    exact ⟨rfl, rfl⟩
set_option maxHeartbeats 400000 in
theorem rune_slow (g o : Nat) (a : Int) (m n : Nat) (r k : Int) (hm : 0 < m) (w : World) (h1 : 128 ≤ a) (hc0 : w.cell? ⟨g, o, none⟩ = some (.int .u8 a))
    (H : Hid (Calls Tryd.prog 34 #[.slice (some ⟨g, o, none⟩) m n] w fun e w' => e = .returned (.tuple #[.int .i32 r, .int .i64 k]) ∧ Below w.heap.size w w')) :
    Calls Tryd.prog 29 #[.slice (some ⟨g, o, none⟩) m n] w fun e w' => e = .returned (.tuple #[.int .i32 r, .int .i64 k]) ∧ Below w.heap.size w w' := by
  go_enter Tryd.func29, Tryd.ntmps29
  go_wp2
  go_loop [8] (fun i => i = .int .i64 0) (fun _ => 0)
  case atStart => rfl
  case round =>
    subst hrel
    go_wp2_with (go_at_call 34; refine H.out.mono ?_; rintro e w1 ⟨rfl, hb⟩)
    go_ret2
    exact ⟨rfl, hb⟩
theorem rune_any (A : Option Addr) (xs : List Int) (n : Nat) (w : World) (hr : Kd.C (Kd.int .u8) w A xs.length xs) (hT : Tabs w) (hW : Whole xs) :
    Calls Tryd.prog 29 #[.slice A xs.length n] w fun e w' => e = .returned (.tuple #[.int .i32 (runeOf xs), .int .i64 xs.length]) ∧ Below w.heap.size w w' := by
  obtain ⟨g, o, rfl, hg, hc⟩ := int_cells hr (by match xs, hW with | [a], _ => simp | [a, b], _ => simp | [a, b, c], _ => simp | [a, b, c, d], _ => simp)
  clear hr
  match xs, hW with
  | [a], ⟨h0, h1⟩ =>
    refine (rune_ascii g o a 1 n (by decide) w h0 h1 (hc 0 a rfl)).mono ?_
    rintro e w' ⟨rfl, rfl⟩
    exact ⟨rfl, Below.refl _ _⟩
  | [a, b], ⟨h0, h1, h2, h3⟩ =>
    have e2 : secLo a = 128 := by unfold secLo; rw [if_neg (by omega), if_neg (by omega)]
    have e3 : secHi a = 191 := by unfold secHi; rw [if_neg (by omega), if_neg (by omega)]
    rw [e2] at h2
    rw [e3] at h3
    exact rune_slow g o a 2 n _ _ (by decide) w (by omega) (hc 0 a rfl) (Lib.hid (slow_2 g o a b n w (by omega) (by omega) h2 h3 (hc 0 a rfl) (later (hc 1 b rfl)) (tab_at hT (by omega) (by omega) (by unfold Lib.firstT; repeat (first | rw [if_pos (by omega)] | rw [if_neg (by omega)]))) (hT.2 0 (by decide)).1 (hT.2 0 (by decide)).2))
  | [a, b, c], ⟨h0, h1, h2, h3, h4, h5⟩ =>
    refine rune_slow g o a 3 n _ _ (by decide) w (by omega) (hc 0 a rfl) (Lib.hid ?_)
    by_cases k1 : a = 224
    · subst k1
      exact slow_19 g o 224 b c n w (by omega) (by omega) h2 h3 h4 h5 (hc 0 _ rfl) (later (hc 1 b rfl)) (later (hc 2 c rfl)) (tab_at hT (by omega) (by omega) rfl) (hT.2 1 (by decide)).1 (hT.2 1 (by decide)).2
    by_cases k2 : a = 237
    · subst k2
      exact slow_35 g o 237 b c n w (by omega) (by omega) h2 h3 h4 h5 (hc 0 _ rfl) (later (hc 1 b rfl)) (later (hc 2 c rfl)) (tab_at hT (by omega) (by omega) rfl) (hT.2 2 (by decide)).1 (hT.2 2 (by decide)).2
    have e2 : secLo a = 128 := by unfold secLo; rw [if_neg (by omega), if_neg (by omega)]
    have e3 : secHi a = 191 := by unfold secHi; rw [if_neg (by omega), if_neg (by omega)]
    rw [e2] at h2
    rw [e3] at h3
    exact slow_3 g o a b c n w (by omega) (by omega) h2 h3 h4 h5 (hc 0 _ rfl) (later (hc 1 b rfl)) (later (hc 2 c rfl)) (tab_at hT (by omega) (by omega) (by unfold Lib.firstT; by_cases k3 : a < 237 <;> repeat (first | rw [if_pos (by omega)] | rw [if_neg (by omega)]))) (hT.2 0 (by decide)).1 (hT.2 0 (by decide)).2
  | [a, b, c, d], ⟨h0, h1, h2, h3, h4, h5, h6, h7⟩ =>
    refine rune_slow g o a 4 n _ _ (by decide) w (by omega) (hc 0 a rfl) (Lib.hid ?_)
    by_cases k1 : a = 240
    · subst k1
      exact slow_52 g o 240 b c d n w (by omega) (by omega) h2 h3 h4 h5 h6 h7 (hc 0 _ rfl) (later (hc 1 b rfl)) (later (hc 2 c rfl)) (later (hc 3 d rfl)) (tab_at hT (by omega) (by omega) rfl) (hT.2 3 (by decide)).1 (hT.2 3 (by decide)).2
    by_cases k2 : a = 244
    · subst k2
      exact slow_68 g o 244 b c d n w (by omega) (by omega) h2 h3 h4 h5 h6 h7 (hc 0 _ rfl) (later (hc 1 b rfl)) (later (hc 2 c rfl)) (later (hc 3 d rfl)) (tab_at hT (by omega) (by omega) rfl) (hT.2 4 (by decide)).1 (hT.2 4 (by decide)).2
    have e2 : secLo a = 128 := by unfold secLo; rw [if_neg (by omega), if_neg (by omega)]
    have e3 : secHi a = 191 := by unfold secHi; rw [if_neg (by omega), if_neg (by omega)]
    rw [e2] at h2
    rw [e3] at h3
    exact slow_4 g o a b c d n w (by omega) (by omega) h2 h3 h4 h5 h6 h7 (hc 0 _ rfl) (later (hc 1 b rfl)) (later (hc 2 c rfl)) (later (hc 3 d rfl)) (tab_at hT (by omega) (by omega) (by unfold Lib.firstT; repeat (first | rw [if_pos (by omega)] | rw [if_neg (by omega)]))) (hT.2 0 (by decide)).1 (hT.2 0 (by decide)).2
end Go.Proofs.YtlopjkfhkfbhlaaDoor.Dec
