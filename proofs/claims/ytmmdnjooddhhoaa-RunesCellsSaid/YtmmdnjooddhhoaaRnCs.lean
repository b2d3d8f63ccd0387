/- slices.Sort and slices.Compact of a row of ints of the call's own, by the library's contracts. -/
import Derived.Test.YtmmdnjooddhhoaaRnL
import Derived.Test.YtmmdnjooddhhoaaRnO
set_option linter.unusedVariables false
set_option linter.unusedSimpArgs false
namespace Go.Proofs.Ytmmdnjooddhhoaa.Rn
open Go Go.RowKit Go.Proofs.YtmmdnjooddhhoaaW.PrintWords Go.Proofs.YtmmdnjooddhhoaaW.PrintLast Go.Proofs.YtmmdnjooddhhoaaW.PrintMore
abbrev kI := Kd.int .i64
abbrev tI : Nat := 3
def encI' (x : Int) : Value := .int .i64 x
theorem reps_int {xs : List Int} {inner : List Value} (h : Reps (fun x cs => cs = [Value.int .i64 x]) 1 xs inner) : inner = xs.map (Value.int .i64) := by
  apply List.ext_getElem?
  intro t
  rw [List.getElem?_map]
  by_cases ht : t < xs.length
  · have h1 := h.2 t xs[t] (List.getElem?_eq_getElem ht)
    have h2 : ((inner.drop (t * 1)).take 1)[0]? = inner[t]? := by
      rw [List.getElem?_take, if_pos (by omega), List.getElem?_drop]
      congr 1
      omega
    rw [← h2, h1, List.getElem?_eq_getElem ht]
    rfl
  · have h0 : inner.length = xs.length * 1 := h.1
    rw [List.getElem?_eq_none (by omega), List.getElem?_eq_none (by omega)]
    rfl
theorem reps_int_mk (xs : List Int) : Reps (fun x cs => cs = [Value.int .i64 x]) 1 xs (xs.map (Value.int .i64)) := by
  refine ⟨by simp, fun j p hp => ?_⟩
  have hj : j < xs.length := (List.getElem?_eq_some_iff.1 hp).1
  have hpe := (List.getElem?_eq_some_iff.1 hp).2
  apply List.ext_getElem?
  intro t
  rw [List.getElem?_take]
  by_cases h2 : t < 1
  · obtain rfl : t = 0 := by omega
    rw [if_pos h2, List.getElem?_drop, List.getElem?_map, Nat.mul_one, Nat.add_zero, hp]
    rfl
  · rw [if_neg h2, List.getElem?_eq_none (by simp; omega)]
theorem int_own {W : World} {base n c : Nat} {ok : Nat → Prop} {A : Option Addr} {xs : List Int} (h : Kd.R kI tI W base ok (.slice A n c) xs) (hn : 0 < xs.length) :
    ∃ g cur, A = some ⟨g, 0, none⟩ ∧ base ≤ g ∧ W.heap[g]? = some (.cells cur tI (0, 0)) ∧ xs.length ≤ c ∧ c ≤ maxLen ∧ cur.size = c ∧ cur.toList.take xs.length = xs.map (Value.int .i64) := by
  obtain ⟨_, inner, ho, hr⟩ := h
  rcases ho.2 with ⟨_, h1⟩ | ⟨g, cap, cur, hv, hbg, hg, hnc, hcm, hcs, htake⟩
  · omega
  injection hv with hA _ hc
  subst hA hc
  have hcs2 : cur.size = c * 1 := hcs
  have htake2 : cur.toList.take (xs.length * 1) = inner := htake
  rw [Nat.mul_one] at hcs2 htake2
  exact ⟨g, cur, rfl, hbg, hg, hnc, hcm, hcs2, htake2.trans (reps_int hr)⟩
theorem int_mk {W : World} {base g c : Nat} {cur : Array Value} {ys : List Int} (hg : W.heap[g]? = some (.cells cur tI (0, 0))) (hb : base ≤ g) (hc : ys.length ≤ c) (hm : c ≤ maxLen) (hs : cur.size = c) (ht : cur.toList.take ys.length = ys.map (Value.int .i64)) :
    Kd.R kI tI W base (fun _ => True) (.slice (some ⟨g, 0, none⟩) ys.length c) ys :=
  ⟨fun _ _ => trivial, ys.map (Value.int .i64), ⟨by show _ = _ * 1; simp, .inr ⟨g, c, cur, rfl, hb, hg, hc, hm, by show _ = _ * 1; omega, by show List.take (_ * 1) _ = _; rw [Nat.mul_one]; exact ht⟩⟩, reps_int_mk ys⟩
theorem put_take1 (d : List Int) (cur : Array Value) (h : d.length ≤ cur.size) : (Go.Sort.putCells (Value.int .i64) 0 d.toArray cur).toList.take d.length = d.map (Value.int .i64) := by
  apply List.ext_getElem?
  intro t
  rw [List.getElem?_take]
  by_cases ht : t < d.length
  · rw [if_pos ht]
    unfold Go.Sort.putCells
    have h2 : t < cur.size := by omega
    simp [ht, h2]
  · rw [if_neg ht, List.getElem?_eq_none]
    simp
    omega
theorem put_blk {w : World} {g m : Nat} {cur : Array Value} {e : TypeId} (h : w.heap[g]? = some (.cells cur e (0, 0))) (d : Array Int) (os : Array Obj) :
    (Go.Sort.grow (Go.Sort.putRow (Value.int .i64) (Go.Sort.ahead w m) g 0 d) os).heap[g]? = some (.cells (Go.Sort.putCells (Value.int .i64) 0 d cur) e (0, 0)) := by
  have hg := blk_lt h
  show ((Go.Sort.ahead w m).heap.modify g _ ++ os)[g]? = _
  rw [Array.getElem?_append_left (by simpa [Go.Sort.ahead] using hg), Array.getElem?_modify, if_pos rfl]
  show (w.heap[g]?).map _ = _
  rw [h]
  rfl
theorem put_far {w : World} {g m k : Nat} (hk : k < w.heap.size) (hne : g ≠ k) (d : Array Int) (os : Array Obj) : (Go.Sort.grow (Go.Sort.putRow (Value.int .i64) (Go.Sort.ahead w m) g 0 d) os).heap[k]? = w.heap[k]? := by
  show ((Go.Sort.ahead w m).heap.modify g _ ++ os)[k]? = _
  rw [Array.getElem?_append_left (by simpa [Go.Sort.ahead] using hk), Array.getElem?_modify, if_neg hne]
  rfl
theorem put_size {w : World} {g m : Nat} (d : Array Int) (os : Array Obj) : w.heap.size ≤ (Go.Sort.grow (Go.Sort.putRow (Value.int .i64) (Go.Sort.ahead w m) g 0 d) os).heap.size := by
  show _ ≤ ((Go.Sort.ahead w m).heap.modify g _ ++ os).size
  simp [Go.Sort.ahead]
theorem holds_int {w : World} {g : Nat} {cur : Array Value} {xs : List Int} (hg : w.heap[g]? = some (.cells cur tI (0, 0))) (ht : cur.toList.take xs.length = xs.map (Value.int .i64)) : Go.Sort.Holds (Value.int .i64) w g 0 xs.toArray := by
  intro t h
  have h' : t < xs.length := by simpa using h
  rw [Nat.zero_add]
  refine ⟨?_, blk_frozen hg t⟩
  have h2 : (cur.toList.take xs.length)[t]? = some (.int .i64 xs[t]) := by rw [ht]; simp [h']
  rw [List.getElem?_take, if_pos h'] at h2
  rw [blk_cell hg t]
  simpa [h'] using h2
/-- the ints, rising -/
def sortI (xs : List Int) : List Int := xs.mergeSort fun x y => decide (x ≤ y)
theorem sortI_len (xs : List Int) : (sortI xs).length = xs.length := List.length_mergeSort _
theorem sortI_any (A : Option Addr) (xs : List Int) (c base : Nat) (w : World) (hR : Kd.R kI tI w base (fun _ => True) (.slice A xs.length c) xs) (hl : xs.length ≤ 1000000000000) :
    Calls Try.prog 40 #[.slice A xs.length c] w fun e w' => e = .returned (.tuple #[]) ∧ Kd.R kI tI w' base (fun _ => True) (.slice A xs.length c) (sortI xs) ∧ Below base w w' ∧ w.grownBy w' (Value.slice A xs.length c).ownBlock := by
  by_cases h0 : xs = []
  · subst h0
    have hcon := Go.Proofs.Any.slices_Sort_int_none Go.Proofs.Try.laysSort A c w
    change Calls Try.prog 40 _ _ _ at hcon
    refine hcon.mono ?_
    rintro e w' ⟨rfl, rfl⟩
    rw [show sortI [] = [] by simp [sortI]]
    exact ⟨rfl, hR, Below.refl _ _, World.grownBy.refl _ _⟩
  have hn : 0 < xs.length := List.length_pos_iff.2 h0
  obtain ⟨g, cur, rfl, hbg, hg, hnc, hcm, hcs, htake⟩ := int_own hR hn
  have hcon := Go.Proofs.Any.slices_Sort_int Go.Proofs.Try.laysSort g 0 c xs w (holds_int hg htake) (blk_lt hg) (by omega)
  change Calls Try.prog 40 _ _ _ at hcon
  refine hcon.mono ?_
  rintro e w' ⟨rfl, m, os, rfl⟩
  have hsl := sortI_len xs
  have hb2 := put_blk (m := m) hg (sortI xs).toArray os
  have hr := int_mk hb2 hbg (by omega) hcm (by simp [Go.Sort.putCells, hcs]) (put_take1 _ _ (by omega))
  rw [hsl] at hr
  refine ⟨rfl, hr, ⟨rfl, rfl, rfl, put_size _ _, fun k hk => put_far (by have := blk_lt hg; omega) (by omega) _ _⟩, ⟨rfl, rfl, rfl, put_size _ _, fun k hk hne => put_far hk (fun e => hne (by subst e; rfl)) _ _⟩⟩
theorem compact_le (xs : List Int) : (Go.Lib.compact xs).length ≤ xs.length := by
  have := List.length_filter_le (Go.Lib.keeps xs.toArray) (List.range xs.length)
  simpa [Go.Lib.compact, Go.Lib.compactUpTo] using this
theorem compactI_any (A : Option Addr) (xs : List Int) (c base : Nat) (w : World) (hR : Kd.R kI tI w base (fun _ => True) (.slice A xs.length c) xs) (hl : xs.length ≤ 1000000000000) :
    Calls Try.prog 41 #[.slice A xs.length c] w fun e w' => e = .returned (.slice A (Go.Lib.compact xs).length c) ∧ Kd.R kI tI w' base (fun _ => True) (.slice A (Go.Lib.compact xs).length c) (Go.Lib.compact xs) ∧ Below base w w' ∧ w.grownBy w' (Value.slice A xs.length c).ownBlock := by
  by_cases h0 : xs = []
  · subst h0
    have hcon := Go.Proofs.Any.slices_Compact_int_empty Go.Proofs.Try.laysCompact A c w
    change Calls Try.prog 41 _ _ _ at hcon
    refine hcon.mono ?_
    rintro e w' ⟨rfl, rfl⟩
    exact ⟨rfl, hR, Below.refl _ _, World.grownBy.refl _ _⟩
  have hn : 0 < xs.length := List.length_pos_iff.2 h0
  obtain ⟨g, cur, rfl, hbg, hg, hnc, hcm, hcs, htake⟩ := int_own hR hn
  have hcon := Go.Proofs.Any.slices_Compact_int Go.Proofs.Try.laysCompact g 0 c xs w (holds_int hg htake) (by omega) hnc
  change Calls Try.prog 41 _ _ _ at hcon
  refine hcon.mono ?_
  rintro e w' ⟨rfl, m, rfl⟩
  have hsl := compact_le xs
  obtain ⟨Y, hY⟩ : ∃ Y, Go.Lib.compact xs ++ List.replicate (xs.length - (Go.Lib.compact xs).length) 0 = Y := ⟨_, rfl⟩
  have hYl : Y.length = xs.length := by rw [← hY]; simp; omega
  have hYt : Y.take (Go.Lib.compact xs).length = Go.Lib.compact xs := by rw [← hY]; simp
  rw [hY]
  have hb2 := put_blk (m := m) hg Y.toArray #[]
  have hfar := fun k (hk : k < w.heap.size) (hne : g ≠ k) => put_far (m := m) hk hne Y.toArray #[]
  have hsz := put_size (w := w) (g := g) (m := m) Y.toArray #[]
  rw [Go.Sort.grow_empty] at hb2 hsz
  simp only [Go.Sort.grow_empty] at hfar
  have htk := put_take1 Y cur (by omega)
  have htk2 : (Go.Sort.putCells (Value.int .i64) 0 Y.toArray cur).toList.take (Go.Lib.compact xs).length = (Go.Lib.compact xs).map (Value.int .i64) := by
    have h3 := congrArg (List.take (Go.Lib.compact xs).length) htk
    rw [List.take_take, Nat.min_eq_left (by omega), ← List.map_take, hYt] at h3
    exact h3
  have hr := int_mk hb2 hbg (by omega) hcm (by simp [Go.Sort.putCells, hcs]) htk2
  exact ⟨rfl, hr, ⟨rfl, rfl, rfl, hsz, fun k hk => hfar k (by have := blk_lt hg; omega) (by omega)⟩, ⟨rfl, rfl, rfl, hsz, fun k hk hne => hfar k hk (fun e => hne (by subst e; rfl))⟩⟩
end Go.Proofs.Ytmmdnjooddhhoaa.Rn
