/- texts of this claim, one behind the other. -/
import Derived.Test.YthdfmbmbjpmlaaaDoorMGPa
import Derived.Deep.Slices
import Derived.OpenShut
import Derived.Carry
import Derived.Test.YthdfmbmbjpmlaaaDoorProg
import Derived.Test.YthdfmbmbjpmlaaaDoorRows
import Derived.Test.YthdfmbmbjpmlaaaDoorMGPf
section
set_option linter.unusedVariables false
set_option linter.unusedSimpArgs false
namespace Go.Proofs.YthdfmbmbjpmlaaaDoor.Op
open Go Go.RowKit Go.Proofs.YthdfmbmbjpmlaaaDoorW.PrintWords Go.ChangeShapes Go.WideShapes Go.Deep
def At {α : Type} (P : Program) (fuel : Nat) (t : TypeId) (k : Kd α) (good : α → Prop) : Prop :=
 ∀ (H : Type) (enc : TypeId × Value → H) (W : World) (cs : List Value) (x : DataW H × List MemPlace), DataW.trod enc P W 0 (fun _ => true) true fuel t cs = some x → ∃ v : α, k.K W v cs ∧ good v
def Upto {α : Type} (P : Program) (fuel : Nat) (t : TypeId) (k : Kd α) (good : α → Prop) : Prop := ∀ n, n < fuel → At P n t k good
def All {α : Type} (P : Program) (t : TypeId) (k : Kd α) (good : α → Prop) : Prop := ∀ fuel, Upto P fuel t k good
theorem All.at {α : Type} {P : Program} {t : TypeId} {k : Kd α} {good : α → Prop} (h : All P t k good) (n : Nat) : At P n t k good := h (n + 1) n (Nat.lt_succ_self n)
theorem Upto.mono {α : Type} {P : Program} {t : TypeId} {k : Kd α} {good good' : α → Prop} {n : Nat} (h : Upto P n t k good) (hg : ∀ v, good v → good' v) : Upto P n t k good' := fun i hi H enc W cs x hx => by
 obtain ⟨v, h1, h2⟩ := h i hi H enc W cs x hx
 exact ⟨v, h1, hg v h2⟩
section
variable {P : Program} {n : Nat} {t : TypeId}
theorem list_of {α : Type} {len : Nat} {p : Nat → α → Prop} (h : ∀ i, i < len → ∃ v, p i v) : ∃ vs : List α, vs.length = len ∧ ∀ i v, vs[i]? = some v → p i v := by
 induction len with
 | zero => exact ⟨[], rfl, fun i v hv => by simp at hv⟩
 | succ m ih =>
  obtain ⟨vs, hl, hv⟩ := ih (fun i hi => h i (Nat.lt_succ_of_lt hi))
  obtain ⟨v, hp⟩ := h m (Nat.lt_succ_self m)
  refine ⟨vs ++ [v], by simp [hl], fun i u hu => ?_⟩
  by_cases c : i < vs.length
  · rw [List.getElem?_append_left c] at hu
    exact hv i u hu
  · rw [List.getElem?_append_right (by omega)] at hu
    obtain ⟨j, hj⟩ : ∃ j, i - vs.length = j := ⟨_, rfl⟩
    rw [hj] at hu
    cases j with
    | zero =>
     obtain rfl : v = u := by simpa using hu
     rw [show i = m by omega]
     exact hp
    | succ j => simp at hu
end
end Go.Proofs.YthdfmbmbjpmlaaaDoor.Op
end
section
set_option linter.unusedVariables false
namespace Go.Proofs.YthdfmbmbjpmlaaaDoor.Op
open Go Go.RowKit Go.Proofs.YthdfmbmbjpmlaaaDoorW.PrintWords
theorem one_le {H : Type} (d : DataW H) : 1 ≤ Rows.uptoBulk d := by
 cases d with
 | lit l => cases l <;> simp [Rows.uptoBulk]
 | nil => simp [Rows.uptoBulk]
 | ptr d => simp [Rows.uptoBulk]
 | slice elems spare => simp [Rows.uptoBulk]
 | agg parts => simp [Rows.uptoBulk]
 | iface t d => simp [Rows.uptoBulk]
 | map entries => simp [Rows.uptoBulk]
 | held h => simp [Rows.uptoBulk]
theorem part_le {H : Type} {d : DataW H} {l : List (DataW H)} (h : d ∈ l) : Rows.uptoBulk d ≤ Rows.uptoBulkAll l := by
 induction l with
 | nil => cases h
 | cons x r ih =>
  simp only [Rows.uptoBulkAll]
  cases List.mem_cons.1 h with
  | inl e => subst e; omega
  | inr e => have := ih e; omega
theorem length_le {H : Type} (l : List (DataW H)) : l.length ≤ Rows.uptoBulkAll l := by
 induction l with
 | nil => simp [Rows.uptoBulkAll]
 | cons x r ih => have := one_le x; simp only [Rows.uptoBulkAll, List.length_cons]; omega
theorem bound {H : Type} {l : List (DataW H)} (hk : Rows.uptoSmall H l = true) : Rows.uptoBulkAll l ≤ 1048576 := of_decide_eq_true hk
section
variable {P : Program} {t : TypeId} {n : Nat}
def AtB {α : Type} (P : Program) (fuel : Nat) (t : TypeId) (k : Kd α) (good : α → Nat → Prop) : Prop :=
 ∀ (H : Type) (enc : TypeId × Value → H) (W : World) (cs : List Value) (x : DataW H × List MemPlace), DataW.trod enc P W 0 (fun _ => true) true fuel t cs = some x → ∃ v : α, k.K W v cs ∧ good v (Rows.uptoBulk x.1)
theorem slice_cellsB {α : Type} {e : TypeId} {k : Kd α} {good : α → Nat → Prop} (ht : P.underlying t = some (.slice e)) (hs : P.cellsOf e = k.sz) (he : ∀ m, AtB P m e k good) {H : Type} {enc : TypeId × Value → H} {W : World} {cs : List Value} {x : DataW H × List MemPlace} (h : DataW.trod enc P W 0 (fun _ => true) true n t cs = some x) :
 ∃ (vs : List α) (A : Option Addr) (c : Nat), cs = [.slice A vs.length c] ∧ vs.length ≤ c ∧ c ≤ maxLen ∧ k.C W A vs.length vs ∧ vs.length ≤ Rows.uptoBulk x.1 ∧ ∀ v, v ∈ vs → ∃ b, good v b ∧ b ≤ Rows.uptoBulk x.1 := by
 rcases DataW.trod_slice ht h with ⟨rfl, _⟩ | ⟨a, len, cap, elems, rest, m, rfl, rfl, rfl, _, hl, hm, hlen, hel, _, _⟩
 · exact ⟨[], none, 0, rfl, Nat.le_refl _, by unfold maxLen; omega, ⟨rfl, by simp, fun h0 => absurd h0 (by simp)⟩, Nat.zero_le _, fun v hv => by cases hv⟩
 · have each : ∀ i, i < len → ∃ v, (∃ b, good v b ∧ b ≤ Rows.uptoBulkAll (elems.map (·.1))) ∧ ∃ c, c.length = k.sz ∧ k.K W v c ∧ ∀ j u, c[j]? = some u → W.cell? (a.add (i * k.sz + j)) = some u := fun i hi => by
    have hi2 := hel i hi
    rw [List.getElem?_eq_getElem (by omega)] at hi2
    obtain ⟨c, h1, h2⟩ := Option.bind_eq_some_iff.1 hi2
    obtain ⟨v, hk, hg⟩ := he m H enc W c _ h2
    obtain ⟨_, hcl, hcc⟩ := World.cells?_some h1
    rw [hs] at hcc
    refine ⟨v, ⟨_, hg, part_le (List.mem_map.2 ⟨_, List.getElem_mem (by omega), rfl⟩)⟩, c, k.K_len hk, hk, fun j u hu => ?_⟩
    have hj : j < c.length := (List.getElem?_eq_some_iff.1 hu).1
    have h4 := hcc j (by rw [k.K_len hk] at hj; exact hj)
    rw [Go.Deep.add_add] at h4
    rw [h4]
    exact hu
   obtain ⟨vs, hvl, hvs⟩ := list_of each
   have hm' : cap ≤ 9223372036854775807 := hm
   have hbl := length_le (elems.map (·.1))
   rw [List.length_map] at hbl
   refine ⟨vs, some a, cap, by rw [hvl], by omega, hm, ⟨rfl, by omega, fun h0 => ⟨a, rfl, fun j p hj => ?_⟩⟩, ?_, fun v hv => ?_⟩
   · obtain ⟨_, c, h1, h2, h3⟩ := hvs j p hj
     exact ⟨c, h1, h2, h3⟩
   · simp only [Rows.uptoBulk]
     omega
   · obtain ⟨i, hi, rfl⟩ := List.getElem_of_mem hv
     obtain ⟨b, hb, hle⟩ := (hvs i _ (List.getElem?_eq_getElem hi)).1
     refine ⟨b, hb, ?_⟩
     simp only [Rows.uptoBulk]
     omega
theorem rows_int {e eI : TypeId} (ht : P.underlying t = some (.slice e)) (hs : P.cellsOf e = 1) (he : P.underlying e = some (.slice eI)) (hI : P.underlying eI = some (.int .i64)) (hsI : P.cellsOf eI = 1) {H : Type} {enc : TypeId × Value → H} {W : World} {a : Option Addr} {len cap : Nat} {x : DataW H × List MemPlace} (h : DataW.trod enc P W 0 (fun _ => true) true n t [.slice a len cap] = some x) :
 ∃ vs : List (List Int), vs.length = len ∧ vs.length ≤ cap ∧ (Kd.slice eI (Kd.int .i64)).C W a vs.length vs ∧ ∀ v, v ∈ vs → v.length ≤ Rows.uptoBulk x.1 := by
 have h1 : ∀ m, AtB P m eI (Kd.int .i64) (fun _ _ => True) := fun m H enc W cs x hx => by
  obtain ⟨a, rfl, _, _⟩ := DataW.trod_int hI hx
  exact ⟨a, rfl, trivial⟩
 have h2 : ∀ m, AtB P m e (Kd.slice eI (Kd.int .i64)) (fun v b => v.length ≤ b) := fun m H enc W cs x hx => by
  obtain ⟨vs, A, c, rfl, hl, _, hc, hb, _⟩ := slice_cellsB he hsI h1 hx
  exact ⟨vs, ⟨A, c, rfl, hl, hc⟩, hb⟩
 obtain ⟨vs, A, c, hcs, h3, _, h4, _, h5⟩ := slice_cellsB ht hs h2 h
 simp only [List.cons.injEq, Value.slice.injEq, and_true] at hcs
 obtain ⟨rfl, rfl, rfl⟩ := hcs
 exact ⟨vs, rfl, h3, h4, fun v hv => by obtain ⟨b, hb, hle⟩ := h5 v hv; omega⟩
theorem F_all {eI A n} {W : World} {ls : List (List Int)} (h : (Kd.slice eI (Kd.int .i64)).C W A n ls) : Kd.F (Kd.slice eI (Kd.int .i64)) W (fun q => q < W.heap.size) A n ls := fun W' hW => by
 have hsz : W.heap.size ≤ W'.heap.size := by
  by_cases h0 : W.heap.size = 0
  · omega
  · have h1 := hW (W.heap.size - 1) (show W.heap.size - 1 < W.heap.size by omega) (by omega)
    have h2 := heap_lt h1 (by omega)
    omega
 have hb : Below W.heap.size W { W with heap := W'.heap } := ⟨rfl, rfl, rfl, hsz, fun k hk => hW k hk hk⟩
 have h2 : (Kd.slice eI (Kd.int .i64)).C { W with heap := W'.heap } A n ls := Kd.C_below h hb
 exact h2
end
end Go.Proofs.YthdfmbmbjpmlaaaDoor.Op
end
