/- runes.Cuts: what it computes, and its first loop (ends and union). -/
import Derived.Test.YtmmdnjooddhhoaaRnCs
set_option linter.unusedVariables false
set_option linter.unusedSimpArgs false
namespace Go.Proofs.Ytmmdnjooddhhoaa.Rn
open Go Go.RowKit Go.Proofs.YtmmdnjooddhhoaaW.PrintWords Go.Proofs.YtmmdnjooddhhoaaW.PrintLast Go.Proofs.YtmmdnjooddhhoaaW.PrintMore
theorem infoI : (Try.prog.info? tI).map (fun i => (i.zero, i.size, i.bytes)) = some (some (.int .i64 0), 1, 8) := by kernel_rfl
theorem underI : Try.prog.underlying 54 = some (.slice tI) := by kernel_rfl
abbrev kSp := k50
abbrev tSp : Nat := 50
/-- both ends of spans -/
def endsL : List Sp → List Int
  | [] => []
  | x :: L => x.f0 :: x.f1 :: endsL L
theorem endsL_append (a b : List Sp) : endsL (a ++ b) = endsL a ++ endsL b := by
  induction a with
  | nil => rfl
  | cons x a ih => simp [endsL, ih]
theorem endsL_len (L : List Sp) : (endsL L).length = 2 * L.length := by
  induction L with
  | nil => rfl
  | cons x L ih => simp [endsL, ih]; omega
/-- .. of all lists -/
def endsS : List (List Rg) → List Int
  | [] => []
  | l :: ls => endsL (spansS l) ++ endsS ls
theorem endsS_append (a b : List (List Rg)) : endsS (a ++ b) = endsS a ++ endsS b := by
  induction a with
  | nil => rfl
  | cons x a ih => simp [endsS, ih]
theorem endsS_len (ls : List (List Rg)) : (endsS ls).length ≤ 2 * ls.flatten.length := by
  induction ls with
  | nil => simp [endsS]
  | cons l ls ih =>
    have h1 := endsL_len (spansS l)
    have h2 := spansS_len l
    rw [endsS, List.length_append, List.flatten_cons, List.length_append]
    omega
def stepX (b : Int) (st : Int × List Sp) (e : Int) : Int × List Sp := if st.1 < e ∧ e ≤ b then (e, st.2 ++ [⟨st.1, e⟩]) else st
def runX (b : Int) (E : List Int) (st : Int × List Sp) : Int × List Sp := E.foldl (stepX b) st
theorem runX_snoc (b : Int) (E : List Int) (e : Int) (st : Int × List Sp) : runX b (E ++ [e]) st = stepX b (runX b E st) e := by simp [runX]
theorem runX_len (b : Int) (E : List Int) : ∀ st, (runX b E st).2.length ≤ st.2.length + E.length := by
  induction E with
  | nil => intro st; simp [runX]
  | cons e E ih =>
    intro st
    have h := ih (stepX b st e)
    have h2 : (stepX b st e).2.length ≤ st.2.length + 1 := by
      unfold stepX
      split <;> simp
    show (runX b E (stepX b st e)).2.length ≤ _
    simp only [List.length_cons]
    omega
def cutX (E : List Int) (out : List Sp) (x : Sp) : List Sp := (runX x.f1 E (x.f0, out)).2
def outS (E : List Int) (L : List Sp) : List Sp := L.foldl (cutX E) []
theorem outS_snoc (E : List Int) (L : List Sp) (x : Sp) : outS E (L ++ [x]) = cutX E (outS E L) x := by simp [outS]
theorem outS_len (E : List Int) (L : List Sp) : ∀ k, k ≤ L.length → (outS E (L.take k)).length ≤ k * E.length := by
  intro k
  induction k with
  | zero => intro _; simp [outS]
  | succ k ih =>
    intro h
    have h1 := ih (by omega)
    rw [List.take_succ_eq_append_getElem (by omega), outS_snoc]
    have h2 := runX_len L[k].f1 E (L[k].f0, outS E (L.take k))
    show (runX _ _ _).2.length ≤ _
    rw [Nat.succ_mul]
    dsimp only at h2
    omega
def cutE (ls : List (List Rg)) : List Int := Go.Lib.compact (sortI (endsS ls))
def cutsS (ls : List (List Rg)) : List Rg := (outS (cutE ls) (spansS ls.flatten)).map rgS
def okC (ls : List (List Rg)) : Bool := ls.all okR && okR ls.flatten && decide (ls.flatten.length ≤ 1000) && decide (ls.length ≤ 1000000)
def runes_Cuts.f (l0 : List (List Rg)) : Option (List Rg) := if okC l0 = true then some (cutsS l0) else none
theorem cutE_len (ls : List (List Rg)) : (cutE ls).length ≤ 2 * ls.flatten.length := by
  have h1 := compact_le (sortI (endsS ls))
  have h2 := sortI_len (endsS ls)
  have h3 := endsS_len ls
  unfold cutE
  omega
theorem R_apart {α β : Type} {d : Kd α} {d' : Kd β} {e e' : Nat} {W w1 : World} {base base' : Nat} {ok' : Nat → Prop} {v v' : Value} {xs : List α} {ys : List β} (h : d.R e W base (fun _ => True) v xs) (h2 : d'.R e' W base' ok' v' ys) (hE : d.E = []) (hne : e ≠ e') (hg : W.grownBy w1 v'.ownBlock) : d.R e w1 base (fun _ => True) v xs := by
  refine Kd.R_mono (Kd.R_grown (Kd.R_bound h) hg (fun k hk eq => ?_)) (fun _ _ => trivial)
  obtain ⟨_, _, _, q, hq, cells, hc⟩ := hk
  obtain ⟨_, inner, ho, _⟩ := h2
  obtain ⟨c2, hc2⟩ := own_typed ho k eq.symm
  rw [hc] at hc2
  injection hc2 with hc2
  injection hc2 with _ hc2
  rw [hE] at hq
  have hq' := List.mem_singleton.1 hq
  exact hne (hq'.symm.trans hc2)
theorem rr_cells {w : World} {A : Option Addr} {ls : List (List Rg)} (h : (Kd.slice tRg kRg).C w A ls.length ls) (hn : 0 < ls.length) :
    ∃ g o, A = some ⟨g, o, none⟩ ∧ ∀ j l, ls[j]? = some l → ∃ Aj cj, w.cell? ⟨g, o + j, none⟩ = some (.slice Aj l.length cj) ∧ l.length ≤ cj ∧ kRg.C w Aj l.length l := by
  obtain ⟨ad, rfl, hc⟩ := h.2.2 hn
  obtain ⟨g, o, sp⟩ := ad
  have h0 : ∃ v, w.cell? ⟨g, o, sp⟩ = some v := by
    obtain ⟨c, hl, ⟨A, c2, rfl, _, _⟩, hcc⟩ := hc 0 ls[0] (by simp)
    have h1 := hcc 0 _ rfl
    exact ⟨_, by simpa [Addr.add, Nat.zero_mul] using h1⟩
  obtain ⟨v, hv⟩ := h0
  obtain rfl := cell_spot hv
  refine ⟨g, o, rfl, fun j x hx => ?_⟩
  obtain ⟨c, hl, ⟨A, c2, rfl, hle, hC⟩, hcc⟩ := hc j x hx
  have h1 := hcc 0 _ rfl
  rw [add_at] at h1
  refine ⟨A, c2, ?_, hle, hC⟩
  rw [show o + j = o + (j * (Kd.slice tRg kRg).sz + 0) by show _ = o + (j * 1 + 0); omega]
  exact h1
theorem lit2_C {W : World} {g : Nat} {a b : Int} {t : TypeId} (h : W.heap[g]? = some (.cells #[.int .i64 a, .int .i64 b] t (0, 0))) : kI.C W (some ⟨g, 0, none⟩) 2 [a, b] := by
  refine ⟨rfl, by decide, fun _ => ⟨_, rfl, fun j p hp => ⟨[.int .i64 p], rfl, rfl, fun i u hu => ?_⟩⟩⟩
  have hi : i = 0 := by
    rcases i with _ | i
    · rfl
    · simp at hu
  subst hi
  have hu' : u = .int .i64 p := by simpa using hu.symm
  subst hu'
  have hj : j = 0 ∨ j = 1 := by
    have := (List.getElem?_eq_some_iff.1 hp).1
    simp at this
    omega
  show W.cell? (Addr.add ⟨g, 0, none⟩ (j * 1 + 0)) = _
  rw [add_at, blk_cell h]
  rcases hj with rfl | rfl
  · simp at hp
    subst hp
    rfl
  · simp at hp
    subst hp
    rfl
end Go.Proofs.Ytmmdnjooddhhoaa.Rn
