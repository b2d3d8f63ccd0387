/- slices.SortFunc of spans, by the library's contract. -/
import Derived.Test.YtmmdnjooddhhoaaRnL
import Derived.Test.YtmmdnjooddhhoaaRnA
import Derived.Test.YtmmdnjooddhhoaaRnK
set_option linter.unusedVariables false
set_option linter.unusedSimpArgs false
namespace Go.Proofs.Ytmmdnjooddhhoaa.Rn
open Go Go.RowKit Go.Proofs.YtmmdnjooddhhoaaW.PrintWords Go.Proofs.YtmmdnjooddhhoaaW.PrintLast Go.Proofs.YtmmdnjooddhhoaaW.PrintMore
instance : Inhabited Sp := ⟨⟨0, 0⟩⟩
def encS (x : Sp) : List Value := [.int .i64 x.f0, .int .i64 x.f1]
def cmpS (x y : Sp) : Int := Lib.compareInt x.f0 y.f0
theorem ltS (x y : Sp) : Go.Proofs.ltOf cmpS x y = decide (x.f0 < y.f0) := by
  unfold Go.Proofs.ltOf cmpS Lib.compareInt
  by_cases h1 : x.f0 < y.f0
  · simp [h1]
  · by_cases h2 : y.f0 < x.f0 <;> simp [h1, h2]
theorem swoS : Go.Sort.SWO (Go.Proofs.ltOf cmpS) where
  irrefl x := by rw [ltS]; simp
  trans x y z h1 h2 := by rw [ltS] at *; simp at *; omega
  ntrans x y z h1 h2 := by rw [ltS] at *; simp at *; omega
set_option maxHeartbeats 1000000 in
theorem cmp_span (x y : Sp) (W : World) : Calls Try.prog 49 #[.agg #[.int .i64 x.f0, .int .i64 x.f1], .agg #[.int .i64 y.f0, .int .i64 y.f1]] W fun e w' => e = .returned (.int .i64 (cmpS x y)) ∧ ∃ q os', w' = Go.Sort.grow (W.drewN q) os' := by
  have hcon := fun W' => Go.Proofs.AnyG.cmp_Compare_int Go.Proofs.Try.cmpInt x.f0 y.f0 W'
  change ∀ W', Calls Try.prog 50 _ _ _ at hcon
  unfold cmpS
  generalize Lib.compareInt x.f0 y.f0 = r at hcon ⊢
  go_enter Try.func49, Try.ntmps49
  go_wp2_with (go_at_call 50; refine (hcon _).mono ?_; rintro e w' ⟨rfl, rfl⟩)
  go_ret
  exact ⟨rfl, 0, _, by rw [Go.Sort.alloc_eq_grow, Go.Sort.alloc_eq_grow, Go.Sort.grow_grow]; rfl⟩
theorem cmp_lays (blk off size : Nat) (w : World) : Go.Proofs.CmpLays Try.prog 49 #[] encS 2 cmpS blk off size w :=
  fun _ _ _ _ x y => cmp_span x y _
theorem flat_inner {M : Sp → List Value → Prop} (hM : ∀ x cs, M x cs → cs = encS x) {xs : List Sp} {inner : List Value} (h : Reps M 2 xs inner) (t : Nat) (ht : t < xs.length * 2) : inner[t]? = some ((encS (xs.toArray[t / 2]!))[t % 2]!) := by
  have hj : t / 2 < xs.length := by omega
  have h1 := hM _ _ (h.2 (t / 2) xs[t / 2] (List.getElem?_eq_getElem hj))
  have h2 : xs.toArray[t / 2]! = xs[t / 2] := by simp [hj]
  rw [h2]
  have h3 : ((inner.drop (t / 2 * 2)).take 2)[t % 2]? = inner[t]? := by
    rw [List.getElem?_take, if_pos (by omega), List.getElem?_drop]
    congr 1
    omega
  rw [← h3, h1]
  have h4 : t % 2 = 0 ∨ t % 2 = 1 := by omega
  rcases h4 with h4 | h4 <;> rw [h4] <;> rfl
theorem reps_flat {M : Sp → List Value → Prop} (hM : ∀ x, M x (encS x)) (d : Array Sp) : Reps M 2 d.toList (Go.Sort.flatK encS 2 d).toList := by
  refine ⟨by simp, fun j p hp => ?_⟩
  have hj : j < d.size := by have := (List.getElem?_eq_some_iff.1 hp).1; simpa using this
  have e : ((Go.Sort.flatK encS 2 d).toList.drop (j * 2)).take 2 = encS p := by
    have hp2 : d[j]! = p := by
      have := (List.getElem?_eq_some_iff.1 hp).2
      simp [hj]
      simpa using this
    apply List.ext_getElem?
    intro t
    rw [List.getElem?_take]
    by_cases h2 : t < 2
    · rw [if_pos h2, List.getElem?_drop]
      have h3 := Go.Sort.get_flatK encS 2 d (j * 2 + t) (by omega)
      have h4 : j * 2 + t < (Go.Sort.flatK encS 2 d).size := by simp; omega
      rw [Array.getElem?_toList, Array.getElem?_eq_getElem h4]
      rw [getElem!_pos (Go.Sort.flatK encS 2 d) (j * 2 + t) h4] at h3
      rw [h3, show (j * 2 + t) / 2 = j by omega, show (j * 2 + t) % 2 = t by omega, hp2]
      have h5 : t = 0 ∨ t = 1 := by omega
      rcases h5 with rfl | rfl <;> rfl
    · rw [if_neg h2]
      symm
      rw [List.getElem?_eq_none]
      show 2 ≤ t
      omega
  rw [e]
  exact hM p
theorem sorted_blk {w : World} {g m : Nat} {cur : Array Value} {e : TypeId} (h : w.heap[g]? = some (.cells cur e (0, 0))) (d : Array Sp) (os : Array Obj) :
    (Go.Proofs.sortWorldK encS 2 w g 0 m d os).heap[g]? = some (.cells (Go.Sort.putCells id 0 (Go.Sort.flatK encS 2 d) cur) e (0, 0)) := by
  have hg := blk_lt h
  show ((Go.Sort.ahead w m).heap.modify g _ ++ os)[g]? = _
  rw [Array.getElem?_append_left (by simpa [Go.Sort.ahead] using hg), Array.getElem?_modify, if_pos rfl]
  show (w.heap[g]?).map _ = _
  rw [h]
  rfl
theorem sorted_far {w : World} {g m k : Nat} (hk : k < w.heap.size) (hne : g ≠ k) (d : Array Sp) (os : Array Obj) : (Go.Proofs.sortWorldK encS 2 w g 0 m d os).heap[k]? = w.heap[k]? := by
  show ((Go.Sort.ahead w m).heap.modify g _ ++ os)[k]? = _
  rw [Array.getElem?_append_left (by simpa [Go.Sort.ahead] using hk), Array.getElem?_modify, if_neg hne]
  rfl
theorem sorted_size {w : World} {g m : Nat} (d : Array Sp) (os : Array Obj) : w.heap.size ≤ (Go.Proofs.sortWorldK encS 2 w g 0 m d os).heap.size := by
  show _ ≤ ((Go.Sort.ahead w m).heap.modify g _ ++ os).size
  simp [Go.Sort.ahead]
theorem put_take (F cur : Array Value) (h : F.size ≤ cur.size) : (Go.Sort.putCells id 0 F cur).toList.take F.size = F.toList := by
  apply List.ext_getElem?
  intro t
  rw [List.getElem?_take]
  by_cases ht : t < F.size
  · rw [if_pos ht]
    unfold Go.Sort.putCells
    have h2 : t < cur.size := by omega
    simp [ht, h2]
  · rw [if_neg ht, List.getElem?_eq_none]
    simp
    omega
theorem sort_any (A : Option Addr) (xs : List Sp) (c base : Nat) (w : World) (hR : Kd.R k50 50 w base (fun _ => True) (.slice A xs.length c) xs) (hl : xs.length < 1000000000000) :
    Calls Try.prog 48 #[.slice A xs.length c, .func (.func 49) #[] #[]] w fun e w' => e = .returned (.tuple #[]) ∧ ∃ ys, ys.length = xs.length ∧ (∀ x, x ∈ ys ↔ x ∈ xs) ∧ (∀ i j (hi : i < j) (hj : j < ys.length), (ys[i]'(by omega)).1 ≤ ys[j].1) ∧ Kd.R k50 50 w' base (fun _ => True) (.slice A xs.length c) ys ∧ Below base w w' := by
  by_cases h0 : xs = []
  · subst h0
    have hcon := Go.Proofs.AnyF.slices_SortFunc_none Go.Proofs.Try.sortSpan A c (.func (.func 49) #[] #[]) w
    change Calls Try.prog 48 _ _ _ at hcon
    refine hcon.mono ?_
    rintro e w' ⟨rfl, rfl⟩
    exact ⟨rfl, [], rfl, fun x => Iff.rfl, fun i j hi hj => absurd hj (by simp), hR, Below.refl _ _⟩
  have hn : 0 < xs.length := List.length_pos_iff.2 h0
  obtain ⟨_, inner, ho, hr⟩ := hR
  rcases ho.2 with ⟨_, h1⟩ | ⟨g, cap, cur, hv, hbg, hg, hnc, hcm, hcs, htake⟩
  · omega
  injection hv with hA _ hc
  subst hA hc
  have htake2 : cur.toList.take (xs.length * 2) = inner := htake
  have hcs2 : cur.size = c * 2 := hcs
  have hMo : ∀ x cs, k50.M w base (fun k => True ∧ some k ≠ (Value.slice (some ⟨g, 0, none⟩) xs.length c).ownBlock) x cs → cs = encS x := fun x cs h => k50_openM h
  have hfl : ∀ t, t < xs.length * 2 → cur[t]? = some ((encS (xs.toArray[t / 2]!))[t % 2]!) := fun t ht => by
    have h2 := flat_inner hMo hr t ht
    rw [← htake2, List.getElem?_take, if_pos ht] at h2
    simpa using h2
  have hH : Go.Sort.HoldsK encS 2 w g 0 xs.toArray := fun t ht => by
    have ht' : t < xs.length * 2 := by simpa using ht
    rw [Nat.zero_add]
    refine ⟨?_, blk_frozen hg t⟩
    rw [blk_cell hg t, hfl t ht', Go.Sort.get_flatK encS 2 _ t (by simpa using ht')]
    rfl
  have eg : ∀ args w, (callFunc 49 args).run Try.prog w = .ok (.enter 49 args) w := enters_of Try.func49 (by kernel_rfl) rfl
  have hcon := Go.Proofs.AnyQ.slices_SortFunc Go.Proofs.Try.sortSpan 2 Try.isAgg50 Try.sizeOf50 encS (fun _ => rfl) (fun x v hv => by simp [encS] at hv; rcases hv with rfl | rfl <;> rfl) cmpS swoS 49 #[] g 0 c xs.toArray w eg (cmp_lays g 0 _ w) hH (blk_lt hg) (by simp; omega)
  change Calls Try.prog 48 _ _ _ at hcon
  simp only [List.size_toArray] at hcon
  refine hcon.mono ?_
  rintro e w' ⟨rfl, d', m, os, hp, hs, rfl⟩
  obtain ⟨hsz, _, hperm⟩ := hp
  have hsz' : d'.size = xs.length := by simpa using hsz
  have hex : ∀ x, x ∈ d'.toList ↔ x ∈ xs := fun x => by
    have h3 := hperm.mem_iff (a := x)
    have e1 : d'.extract 0 xs.length = d' := by rw [← hsz']; exact Array.extract_size
    have e2 : xs.toArray.extract 0 xs.length = xs.toArray := by simp
    rw [e1, e2] at h3
    simpa using h3
  have hF : (Go.Sort.flatK encS 2 d').size = xs.length * 2 := by rw [Go.Sort.size_flatK, hsz']
  refine ⟨rfl, d'.toList, by simpa using hsz', hex, fun i j hi hj => ?_, ?_, ?_⟩
  · have hj' : j < d'.size := by simpa using hj
    have h4 := hs i j (Nat.zero_le _) hi (by omega)
    rw [ltS] at h4
    rw [getElem!_pos d' i (by omega), getElem!_pos d' j hj'] at h4
    have h5 := of_decide_eq_false h4
    simp only [Array.getElem_toList]
    show d'[i].f0 ≤ d'[j].f0
    omega
  · refine ⟨fun _ _ => trivial, (Go.Sort.flatK encS 2 d').toList, ⟨by rw [show k50.sz = 2 from rfl]; simp, .inr ⟨g, c, _, by rw [show d'.toList.length = xs.length by simpa using hsz'], hbg, sorted_blk hg d' os, by simpa [hsz'] using hnc, hcm, by rw [show k50.sz = 2 from rfl]; simp [Go.Sort.putCells, hcs2], ?_⟩⟩, reps_flat (fun x => k50_mkM _ _ _ x) d'⟩
    have h6 := put_take (Go.Sort.flatK encS 2 d') cur (by rw [hF, hcs2]; omega)
    rw [hF] at h6
    show List.take (d'.toList.length * 2) _ = _
    rw [show d'.toList.length = xs.length by simpa using hsz']
    exact h6
  · exact ⟨rfl, rfl, rfl, sorted_size d' os, fun k hk => sorted_far (by have := blk_lt hg; omega) (by omega) d' os⟩
end Go.Proofs.Ytmmdnjooddhhoaa.Rn
