import Derived.Test.YtlopjkfhkfbhlaaDoorDcB
import Derived.Shelf.Unicode.DecodeSlow
import Derived.Laws.BitsLemmas
set_option linter.unusedVariables false
set_option linter.unusedSimpArgs false
namespace Go.Proofs.YtlopjkfhkfbhlaaDoor.Dec
open Go Go.RowKit Go.Proofs.YtlopjkfhkfbhlaaDoorW.PrintWords Go.Proofs.YtlopjkfhkfbhlaaDoorW.PrintLast Go.Proofs.YtlopjkfhkfbhlaaDoorW.PrintMore
abbrev Tabs (w : World) : Prop := Lib.Utf8Tabs 0 1 w
theorem cell_spot {w : World} {b o : Nat} {sp : Option Nat} {v : Value} (h : w.cell? ⟨b, o, sp⟩ = some v) : sp = none := by
  cases sp with
  | none => rfl
  | some s =>
    unfold World.cell? at h
    split at h <;> simp_all
/-- a row of whole numbers that is read, by plain addresses -/
theorem int_cells {w : World} {k : IntKind} {A : Option Addr} {xs : List Int} (h : Kd.C (Kd.int k) w A xs.length xs) (hn : 0 < xs.length) :
    ∃ g o, A = some ⟨g, o, none⟩ ∧ g < w.heap.size ∧ ∀ j x, xs[j]? = some x → w.cell? ⟨g, o + j, none⟩ = some (.int k x) := by
  obtain ⟨ad, rfl, hc⟩ := h.2.2 hn
  obtain ⟨g, o, sp⟩ := ad
  have h0 : ∃ v, w.cell? ⟨g, o, sp⟩ = some v := by
    obtain ⟨x, hx⟩ : ∃ x, xs[0]? = some x := ⟨xs[0], by simp⟩
    obtain ⟨c, hl, hR, hcc⟩ := hc 0 x hx
    have hR' : c = [.int k x] := hR
    subst hR'
    have h1 := hcc 0 _ rfl
    exact ⟨_, by simpa [Addr.add, Kd.int, Kd.scalar] using h1⟩
  obtain ⟨v, hv⟩ := h0
  obtain rfl := cell_spot hv
  refine ⟨g, o, rfl, World.block_lt_of_cell? w _ hv, fun j x hx => ?_⟩
  obtain ⟨c, hl, hR, hcc⟩ := hc j x hx
  have hR' : c = [.int k x] := hR
  subst hR'
  have h1 := hcc 0 _ rfl
  simpa [add_at, Kd.int, Kd.scalar] using h1
theorem later {w : World} {a : Addr} {v : Value} (h : w.cell? a = some v) : ∀ o, (w.alloc o).cell? a = some v := fun o => pw_cell_below (below_alloc (Below.refl _ _) o) h
set_option maxHeartbeats 1000000 in
set_option maxRecDepth 100000 in
theorem slow_2 (g o : Nat) (a b : Int) (n : Nat) (w : World) (h0 : 0 ≤ a) (h1 : a < 256) (hb0 : 128 ≤ b) (hb1 : b ≤ 191)
    (hc0 : w.cell? ⟨g, o, none⟩ = some (.int .u8 a)) (hc1 : ∀ ob, (w.alloc ob).cell? ⟨g, o + 1, none⟩ = some (.int .u8 b)) (hT : w.cell? ⟨0, a.toNat, none⟩ = some (.int .u8 2))
    (hL : w.cell? ⟨1, 0, none⟩ = some (.int .u8 128)) (hH : w.cell? ⟨1, 1, none⟩ = some (.int .u8 191)) :
    Calls Tryd.prog 34 #[.slice (some ⟨g, o, none⟩) 2 n] w fun e w' => e = .returned (.tuple #[.int .i32 (a % 32 * 64 + b % 64), .int .i64 2]) ∧ Below w.heap.size w w' := by
  go_enter Tryd.func34, Tryd.ntmps34
  go_wp2
  go_ret2
  exact ⟨rfl, below_alloc (Below.refl _ _) _⟩
set_option maxHeartbeats 1000000 in
set_option maxRecDepth 100000 in
theorem slow_19 (g o : Nat) (a b c : Int) (n : Nat) (w : World) (h0 : 0 ≤ a) (h1 : a < 256) (hb0 : 160 ≤ b) (hb1 : b ≤ 191) (hc0 : 128 ≤ c) (hc1 : c ≤ 191)
    (hc0 : w.cell? ⟨g, o, none⟩ = some (.int .u8 a)) (hc1 : ∀ ob, (w.alloc ob).cell? ⟨g, o + 1, none⟩ = some (.int .u8 b)) (hc2 : ∀ ob, (w.alloc ob).cell? ⟨g, o + 2, none⟩ = some (.int .u8 c)) (hT : w.cell? ⟨0, a.toNat, none⟩ = some (.int .u8 19))
    (hL : w.cell? ⟨1, 2, none⟩ = some (.int .u8 160)) (hH : w.cell? ⟨1, 3, none⟩ = some (.int .u8 191)) :
    Calls Tryd.prog 34 #[.slice (some ⟨g, o, none⟩) 3 n] w fun e w' => e = .returned (.tuple #[.int .i32 (a % 16 * 4096 + b % 64 * 64 + c % 64), .int .i64 3]) ∧ Below w.heap.size w w' := by
  go_enter Tryd.func34, Tryd.ntmps34
  go_wp2
  go_ret2
  exact ⟨rfl, below_alloc (Below.refl _ _) _⟩
set_option maxHeartbeats 1000000 in
set_option maxRecDepth 100000 in
theorem slow_3 (g o : Nat) (a b c : Int) (n : Nat) (w : World) (h0 : 0 ≤ a) (h1 : a < 256) (hb0 : 128 ≤ b) (hb1 : b ≤ 191) (hc0 : 128 ≤ c) (hc1 : c ≤ 191)
    (hc0 : w.cell? ⟨g, o, none⟩ = some (.int .u8 a)) (hc1 : ∀ ob, (w.alloc ob).cell? ⟨g, o + 1, none⟩ = some (.int .u8 b)) (hc2 : ∀ ob, (w.alloc ob).cell? ⟨g, o + 2, none⟩ = some (.int .u8 c)) (hT : w.cell? ⟨0, a.toNat, none⟩ = some (.int .u8 3))
    (hL : w.cell? ⟨1, 0, none⟩ = some (.int .u8 128)) (hH : w.cell? ⟨1, 1, none⟩ = some (.int .u8 191)) :
    Calls Tryd.prog 34 #[.slice (some ⟨g, o, none⟩) 3 n] w fun e w' => e = .returned (.tuple #[.int .i32 (a % 16 * 4096 + b % 64 * 64 + c % 64), .int .i64 3]) ∧ Below w.heap.size w w' := by
  go_enter Tryd.func34, Tryd.ntmps34
  go_wp2
  go_ret2
  exact ⟨rfl, below_alloc (Below.refl _ _) _⟩
set_option maxHeartbeats 1000000 in
set_option maxRecDepth 100000 in
theorem slow_35 (g o : Nat) (a b c : Int) (n : Nat) (w : World) (h0 : 0 ≤ a) (h1 : a < 256) (hb0 : 128 ≤ b) (hb1 : b ≤ 159) (hc0 : 128 ≤ c) (hc1 : c ≤ 191)
    (hc0 : w.cell? ⟨g, o, none⟩ = some (.int .u8 a)) (hc1 : ∀ ob, (w.alloc ob).cell? ⟨g, o + 1, none⟩ = some (.int .u8 b)) (hc2 : ∀ ob, (w.alloc ob).cell? ⟨g, o + 2, none⟩ = some (.int .u8 c)) (hT : w.cell? ⟨0, a.toNat, none⟩ = some (.int .u8 35))
    (hL : w.cell? ⟨1, 4, none⟩ = some (.int .u8 128)) (hH : w.cell? ⟨1, 5, none⟩ = some (.int .u8 159)) :
    Calls Tryd.prog 34 #[.slice (some ⟨g, o, none⟩) 3 n] w fun e w' => e = .returned (.tuple #[.int .i32 (a % 16 * 4096 + b % 64 * 64 + c % 64), .int .i64 3]) ∧ Below w.heap.size w w' := by
  go_enter Tryd.func34, Tryd.ntmps34
  go_wp2
  go_ret2
  exact ⟨rfl, below_alloc (Below.refl _ _) _⟩
set_option maxHeartbeats 1000000 in
set_option maxRecDepth 100000 in
theorem slow_52 (g o : Nat) (a b c d : Int) (n : Nat) (w : World) (h0 : 0 ≤ a) (h1 : a < 256) (hb0 : 144 ≤ b) (hb1 : b ≤ 191) (hc0 : 128 ≤ c) (hc1 : c ≤ 191) (hd0 : 128 ≤ d) (hd1 : d ≤ 191)
    (hc0 : w.cell? ⟨g, o, none⟩ = some (.int .u8 a)) (hc1 : ∀ ob, (w.alloc ob).cell? ⟨g, o + 1, none⟩ = some (.int .u8 b)) (hc2 : ∀ ob, (w.alloc ob).cell? ⟨g, o + 2, none⟩ = some (.int .u8 c)) (hc3 : ∀ ob, (w.alloc ob).cell? ⟨g, o + 3, none⟩ = some (.int .u8 d)) (hT : w.cell? ⟨0, a.toNat, none⟩ = some (.int .u8 52))
    (hL : w.cell? ⟨1, 6, none⟩ = some (.int .u8 144)) (hH : w.cell? ⟨1, 7, none⟩ = some (.int .u8 191)) :
    Calls Tryd.prog 34 #[.slice (some ⟨g, o, none⟩) 4 n] w fun e w' => e = .returned (.tuple #[.int .i32 (a % 8 * 262144 + b % 64 * 4096 + c % 64 * 64 + d % 64), .int .i64 4]) ∧ Below w.heap.size w w' := by
  go_enter Tryd.func34, Tryd.ntmps34
  go_wp2
  go_ret2
  exact ⟨rfl, below_alloc (Below.refl _ _) _⟩
set_option maxHeartbeats 1000000 in
set_option maxRecDepth 100000 in
theorem slow_4 (g o : Nat) (a b c d : Int) (n : Nat) (w : World) (h0 : 0 ≤ a) (h1 : a < 256) (hb0 : 128 ≤ b) (hb1 : b ≤ 191) (hc0 : 128 ≤ c) (hc1 : c ≤ 191) (hd0 : 128 ≤ d) (hd1 : d ≤ 191)
    (hc0 : w.cell? ⟨g, o, none⟩ = some (.int .u8 a)) (hc1 : ∀ ob, (w.alloc ob).cell? ⟨g, o + 1, none⟩ = some (.int .u8 b)) (hc2 : ∀ ob, (w.alloc ob).cell? ⟨g, o + 2, none⟩ = some (.int .u8 c)) (hc3 : ∀ ob, (w.alloc ob).cell? ⟨g, o + 3, none⟩ = some (.int .u8 d)) (hT : w.cell? ⟨0, a.toNat, none⟩ = some (.int .u8 4))
    (hL : w.cell? ⟨1, 0, none⟩ = some (.int .u8 128)) (hH : w.cell? ⟨1, 1, none⟩ = some (.int .u8 191)) :
    Calls Tryd.prog 34 #[.slice (some ⟨g, o, none⟩) 4 n] w fun e w' => e = .returned (.tuple #[.int .i32 (a % 8 * 262144 + b % 64 * 4096 + c % 64 * 64 + d % 64), .int .i64 4]) ∧ Below w.heap.size w w' := by
  go_enter Tryd.func34, Tryd.ntmps34
  go_wp2
  go_ret2
  exact ⟨rfl, below_alloc (Below.refl _ _) _⟩
set_option maxHeartbeats 1000000 in
set_option maxRecDepth 100000 in
theorem slow_68 (g o : Nat) (a b c d : Int) (n : Nat) (w : World) (h0 : 0 ≤ a) (h1 : a < 256) (hb0 : 128 ≤ b) (hb1 : b ≤ 143) (hc0 : 128 ≤ c) (hc1 : c ≤ 191) (hd0 : 128 ≤ d) (hd1 : d ≤ 191)
    (hc0 : w.cell? ⟨g, o, none⟩ = some (.int .u8 a)) (hc1 : ∀ ob, (w.alloc ob).cell? ⟨g, o + 1, none⟩ = some (.int .u8 b)) (hc2 : ∀ ob, (w.alloc ob).cell? ⟨g, o + 2, none⟩ = some (.int .u8 c)) (hc3 : ∀ ob, (w.alloc ob).cell? ⟨g, o + 3, none⟩ = some (.int .u8 d)) (hT : w.cell? ⟨0, a.toNat, none⟩ = some (.int .u8 68))
    (hL : w.cell? ⟨1, 8, none⟩ = some (.int .u8 128)) (hH : w.cell? ⟨1, 9, none⟩ = some (.int .u8 143)) :
    Calls Tryd.prog 34 #[.slice (some ⟨g, o, none⟩) 4 n] w fun e w' => e = .returned (.tuple #[.int .i32 (a % 8 * 262144 + b % 64 * 4096 + c % 64 * 64 + d % 64), .int .i64 4]) ∧ Below w.heap.size w w' := by
  go_enter Tryd.func34, Tryd.ntmps34
  go_wp2
  go_ret2
  exact ⟨rfl, below_alloc (Below.refl _ _) _⟩
end Go.Proofs.YtlopjkfhkfbhlaaDoor.Dec
