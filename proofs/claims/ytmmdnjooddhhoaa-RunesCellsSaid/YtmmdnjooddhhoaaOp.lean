/- arguments opened by their type's shape: numbers, bools, texts, slices, structs of any fields, to any depth. -/
import Derived.Test.YtmmdnjooddhhoaaWMore
import Derived.Test.YtmmdnjooddhhoaaWWords
import Derived.Deep.Slices
import Derived.OpenShut
import Derived.Carry
import Derived.Test.YtmmdnjooddhhoaaProg
set_option linter.unusedVariables false
set_option linter.unusedSimpArgs false
namespace Go.Proofs.Ytmmdnjooddhhoaa.Op
open Go Go.RowKit Go.Proofs.YtmmdnjooddhhoaaW.PrintWords Go.ChangeShapes Go.WideShapes Go.Deep
theorem laidOut : laidOutB Try.prog = true := by kernel_rfl
/-- at a depth: what reads as data of a type is of the kind, and its value is good -/
def At {α : Type} (P : Program) (fuel : Nat) (t : TypeId) (k : Kd α) (good : α → Prop) : Prop :=
  ∀ (H : Type) (enc : TypeId × Value → H) (W : World) (cs : List Value) (x : DataW H × List MemPlace), DataW.trod enc P W 0 (fun _ => true) true fuel t cs = some x → ∃ v : α, k.K W v cs ∧ good v
/-- below a depth -/
def Upto {α : Type} (P : Program) (fuel : Nat) (t : TypeId) (k : Kd α) (good : α → Prop) : Prop := ∀ n, n < fuel → At P n t k good
/-- at every depth -/
def All {α : Type} (P : Program) (t : TypeId) (k : Kd α) (good : α → Prop) : Prop := ∀ fuel, Upto P fuel t k good
theorem All.at {α : Type} {P : Program} {t : TypeId} {k : Kd α} {good : α → Prop} (h : All P t k good) (n : Nat) : At P n t k good := h (n + 1) n (Nat.lt_succ_self n)
theorem Upto.le {α : Type} {P : Program} {t : TypeId} {k : Kd α} {good : α → Prop} {n m : Nat} (h : Upto P n t k good) (hm : m ≤ n) : Upto P m t k good := fun i hi => h i (Nat.lt_of_lt_of_le hi hm)
theorem Upto.mono {α : Type} {P : Program} {t : TypeId} {k : Kd α} {good good' : α → Prop} {n : Nat} (h : Upto P n t k good) (hg : ∀ v, good v → good' v) : Upto P n t k good' := fun i hi H enc W cs x hx => by
  obtain ⟨v, h1, h2⟩ := h i hi H enc W cs x hx
  exact ⟨v, h1, hg v h2⟩
/-- by the depth -/
theorem All.rec_ {α : Type} {P : Program} {t : TypeId} {k : Kd α} {good : α → Prop} (h : ∀ n, Upto P n t k good → At P n t k good) : All P t k good := by
  intro fuel
  induction fuel with
  | zero => intro n hn; exact absurd hn (Nat.not_lt_zero n)
  | succ m ih =>
    intro n hn
    by_cases c : n = m
    · rw [c]; exact h m ih
    · exact ih n (by omega)
section
variable {P : Program} {n : Nat} {t : TypeId}
theorem int_ {k : IntKind} (ht : P.underlying t = some (.int k)) : At P n t (Kd.int k) (fun a => (Lit.int k a).wf = true) := fun H enc W cs x h => by
  obtain ⟨a, rfl, _, hw⟩ := DataW.trod_int ht h
  exact ⟨a, rfl, hw⟩
theorem bool_ (ht : P.underlying t = some .bool) : At P n t Kd.bool (fun _ => True) := fun H enc W cs x h => by
  obtain ⟨b, rfl, _⟩ := DataW.trod_bool ht h
  exact ⟨b, rfl, trivial⟩
theorem string_ (ht : P.underlying t = some .string) : At P n t Kd.string (fun s => s.size ≤ maxLen) := fun H enc W cs x h => by
  obtain ⟨s, rfl, _, hs⟩ := DataW.trod_string ht h
  exact ⟨s, rfl, hs⟩
/-- a row, element by element -/
theorem list_of {α : Type} {len : Nat} {p : Nat → α → Prop} (h : ∀ i, i < len → ∃ v, p i v) : ∃ vs : List α, vs.length = len ∧ ∀ i v, vs[i]? = some v → p i v := by
  induction len with
  | zero => exact ⟨[], rfl, fun i v hv => by simp at hv⟩
  | succ m ih =>
    obtain ⟨vs, hl, hv⟩ := ih (fun i hi => h i (Nat.lt_succ_of_lt hi))
    obtain ⟨v, hp⟩ := h m (Nat.lt_succ_self m)
    refine ⟨vs ++ [v], by simp [hl], fun i u hu => ?_⟩
    by_cases c : i < vs.length
    · rw [List.getElem?_append_left c] at hu
      exact hv i u hu
    · rw [List.getElem?_append_right (by omega)] at hu
      obtain ⟨j, hj⟩ : ∃ j, i - vs.length = j := ⟨_, rfl⟩
      rw [hj] at hu
      cases j with
      | zero =>
        obtain rfl : v = u := by simpa using hu
        rw [show i = m by omega]
        exact hp
      | succ j => simp at hu
theorem slice_cells {α : Type} {e : TypeId} {k : Kd α} {good : α → Prop} (ht : P.underlying t = some (.slice e)) (hs : P.cellsOf e = k.sz) (he : Upto P n e k good) {H : Type} {enc : TypeId × Value → H} {W : World} {cs : List Value} {x : DataW H × List MemPlace} (h : DataW.trod enc P W 0 (fun _ => true) true n t cs = some x) :
    ∃ (vs : List α) (A : Option Addr) (c : Nat), cs = [.slice A vs.length c] ∧ vs.length ≤ c ∧ c ≤ maxLen ∧ k.C W A vs.length vs ∧ ∀ v, v ∈ vs → good v := by
  rcases DataW.trod_slice ht h with ⟨rfl, _⟩ | ⟨a, len, cap, elems, rest, m, rfl, rfl, _, _, hl, hm, hlen, hel, _, _⟩
  · exact ⟨[], none, 0, rfl, Nat.le_refl _, by unfold maxLen; omega, ⟨rfl, by simp, fun h0 => absurd h0 (by simp)⟩, fun v hv => by cases hv⟩
  · have each : ∀ i, i < len → ∃ v, good v ∧ ∃ c, c.length = k.sz ∧ k.K W v c ∧ ∀ j u, c[j]? = some u → W.cell? (a.add (i * k.sz + j)) = some u := fun i hi => by
      have hi2 := hel i hi
      rw [List.getElem?_eq_getElem (by omega)] at hi2
      obtain ⟨c, h1, h2⟩ := Option.bind_eq_some_iff.1 hi2
      obtain ⟨v, hk, hg⟩ := he m (Nat.lt_succ_self m) H enc W c _ h2
      obtain ⟨_, hcl, hcc⟩ := World.cells?_some h1
      rw [hs] at hcc
      refine ⟨v, hg, c, k.K_len hk, hk, fun j u hu => ?_⟩
      have hj : j < c.length := (List.getElem?_eq_some_iff.1 hu).1
      have h4 := hcc j (by rw [k.K_len hk] at hj; exact hj)
      rw [Go.Deep.add_add] at h4
      rw [h4]
      exact hu
    obtain ⟨vs, hvl, hvs⟩ := list_of each
    have hm' : cap ≤ 9223372036854775807 := hm
    refine ⟨vs, some a, cap, by rw [hvl], by omega, hm, ⟨rfl, by omega, fun h0 => ⟨a, rfl, fun j p hj => ?_⟩⟩, fun v hv => ?_⟩
    · obtain ⟨_, c, h1, h2, h3⟩ := hvs j p hj
      exact ⟨c, h1, h2, h3⟩
    · obtain ⟨i, hi, rfl⟩ := List.getElem_of_mem hv
      exact (hvs i _ (List.getElem?_eq_getElem hi)).1
theorem slice_ {α : Type} {e : TypeId} {k : Kd α} {good : α → Prop} (q : Nat) (ht : P.underlying t = some (.slice e)) (hs : P.cellsOf e = k.sz) (he : Upto P n e k good) : At P n t (Kd.slice q k) (fun vs => ∀ v, v ∈ vs → good v) := fun H enc W cs x h => by
  obtain ⟨vs, A, c, rfl, hl, _, hc, hg⟩ := slice_cells ht hs he h
  exact ⟨vs, ⟨A, c, rfl, hl, hc⟩, hg⟩
/-- an argument that is a row -/
theorem row_ {α : Type} {e : TypeId} {k : Kd α} {good : α → Prop} (ht : P.underlying t = some (.slice e)) (hs : P.cellsOf e = k.sz) (he : All P e k good) {H : Type} {enc : TypeId × Value → H} {W : World} {a : Option Addr} {len cap : Nat} {x : DataW H × List MemPlace} (h : DataW.trod enc P W 0 (fun _ => true) true n t [.slice a len cap] = some x) :
    ∃ vs : List α, vs.length = len ∧ vs.length ≤ cap ∧ cap ≤ maxLen ∧ k.C W a vs.length vs ∧ ∀ v, v ∈ vs → good v := by
  obtain ⟨vs, A, c, hcs, h1, h2, h3, h4⟩ := slice_cells ht hs (he n) h
  simp only [List.cons.injEq, Value.slice.injEq, and_true] at hcs
  obtain ⟨rfl, rfl, rfl⟩ := hcs
  exact ⟨vs, rfl, h1, h2, h3, h4⟩
/-- the fields of a struct from one on, cell by cell -/
def Flds {α : Type} (P : Program) (n : Nat) (fs : List Field) (off : Nat) (k : Kd α) (good : α → Prop) : Prop :=
  ∀ (H : Type) (enc : TypeId × Value → H) (W : World) (cs : List Value) (ds : List (DataW H × List MemPlace)),
    (∀ (i : Nat) (f : Field), fs[i]? = some f → DataW.trod enc P W 0 (fun _ => true) true n f.type ((cs.drop (f.offset - off)).take (P.cellsOf f.type)) = ds[i]?) → ds.length = fs.length → cs.length = k.sz → ∃ v : α, k.K W v cs ∧ good v
theorem flds_one {α : Type} {f : Field} {off : Nat} {k : Kd α} {good : α → Prop} (ho : f.offset = off) (hs : P.cellsOf f.type = k.sz) (h : At P n f.type k good) : Flds P n [f] off k good := fun H enc W cs ds hf hl hc => by
  match ds, hl with
  | [d], _ =>
    have h0 := hf 0 f rfl
    rw [ho, Nat.sub_self, hs, List.drop_zero, List.take_of_length_le (by omega)] at h0
    exact h H enc W cs d h0
theorem flds_cons {α β : Type} {f : Field} {fs : List Field} {off off' : Nat} {a : Kd α} {b : Kd β} {ga : α → Prop} {gb : β → Prop} (ho : f.offset = off) (hs : P.cellsOf f.type = a.sz) (ho' : off' = off + a.sz) (hge : ∀ g, g ∈ fs → off' ≤ g.offset)
    (h : At P n f.type a ga) (h' : Flds P n fs off' b gb) : Flds P n (f :: fs) off (Kd.pair a b) (fun x => ga x.1 ∧ gb x.2) := fun H enc W cs ds hf hl hc => by
  match ds, hl with
  | d :: ds, hl =>
    have hc' : cs.length = a.sz + b.sz := hc
    have h0 := hf 0 f rfl
    rw [ho, Nat.sub_self, hs, List.drop_zero] at h0
    obtain ⟨x, hx, gx⟩ := h H enc W _ d h0
    obtain ⟨y, hy, gy⟩ := h' H enc W (cs.drop a.sz) ds (fun i g hg => by
      have h1 := hf (i + 1) g hg
      have h2 := hge g (List.mem_of_getElem? hg)
      rw [List.drop_drop]
      rw [show a.sz + (g.offset - off') = g.offset - off by omega]
      exact h1) (by simpa using hl) (by rw [List.length_drop]; omega)
    exact ⟨(x, y), ⟨_, _, (List.take_append_drop a.sz cs).symm, hx, hy⟩, gx, gy⟩
theorem struct_ {α β : Type} {fs : List Field} {k : Kd α} {good : α → Prop} {g : β → α} (gi : α → β) (hg : ∀ x, g (gi x) = x) (ht : P.underlying t = some (.struct fs.toArray)) (hs : P.cellsOf t = k.sz)
    (h : ∀ m, m < n → Flds P m fs 0 k good) : At P n t (Kd.iso k g) (fun v => good (g v)) := fun H enc W cs x hx => by
  obtain ⟨xs, m, rfl, _, hcl, hxl, hf⟩ := DataW.trod_struct ht hx
  obtain ⟨v, hv, hgv⟩ := h m (Nat.lt_succ_self m) H enc W cs xs (fun i f hi => by
    rw [Nat.sub_zero]
    exact hf i f (by simpa using hi)) (by simpa using hxl) (by rw [hcl, hs])
  exact ⟨gi v, by show k.K W (g (gi v)) cs; rw [hg]; exact hv, by show good (g (gi v)); rw [hg]; exact hgv⟩
end
end Go.Proofs.Ytmmdnjooddhhoaa.Op
