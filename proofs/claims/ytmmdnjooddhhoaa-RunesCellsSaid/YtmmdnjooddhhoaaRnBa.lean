/- rising numbers, ends of spans, pieces between neighbours: the program's cells in plain words; rounds of loops. -/
import Derived.Test.YtmmdnjooddhhoaaRnCa
import Derived.Test.YtmmdnjooddhhoaaRnYa
set_option linter.unusedVariables false
set_option linter.unusedSimpArgs false
namespace Go.Proofs.Ytmmdnjooddhhoaa.Rn
open Go Go.RowKit Go.Proofs.YtmmdnjooddhhoaaW.PrintWords Go.Proofs.YtmmdnjooddhhoaaW.PrintLast Go.Proofs.YtmmdnjooddhhoaaW.PrintMore
theorem rd_nat (l : List Int) (i : Nat) (hi : i < l.length) : rd l (i : Int) = l[i] := by
  unfold rd
  rw [Int.toNat_natCast, List.getD_eq_getElem?_getD, List.getElem?_eq_getElem hi]
  rfl
theorem wsucc {i : Nat} (h : i ≤ 100000000) : wrap64 ((i : Int) + 1) = ((i + 1 : Nat) : Int) := by unfold wrap64; omega
theorem w64_32 {a : Int} (h0 : -2147483648 ≤ a) (h1 : a < 2147483648) : wrap64 a = a := by unfold wrap64; omega
/-- a number among rising ones, once -/
def insD (c : Int) : List Int → List Int
  | [] => [c]
  | x :: xs => if x < c then x :: insD c xs else if x = c then x :: xs else c :: x :: xs
theorem insD_len (c : Int) : ∀ l, (insD c l).length ≤ l.length + 1
  | [] => by simp [insD]
  | x :: xs => by
    have := insD_len c xs
    unfold insD
    repeat' split
    all_goals simp; try omega
def insAll (es out : List Int) : List Int := es.foldl (fun o e => insD e o) out
/-- rising, each once, above a bound -/
def RisB : Int → List Int → Prop
  | _, [] => True
  | lo, x :: r => lo < x ∧ RisB x r
theorem insD_ris (c : Int) : ∀ (l : List Int) (lo : Int), lo < c → RisB lo l → RisB lo (insD c l)
  | [], lo, h, _ => ⟨h, trivial⟩
  | x :: xs, lo, h, hr => by
    unfold insD
    by_cases c1 : x < c
    · rw [if_pos c1]
      exact ⟨hr.1, insD_ris c xs x c1 hr.2⟩
    · rw [if_neg c1]
      by_cases c2 : x = c
      · rw [if_pos c2]
        exact hr
      · rw [if_neg c2]
        exact ⟨h, by omega, hr.2⟩
theorem insD_mem (c z : Int) : ∀ l, z ∈ insD c l ↔ z = c ∨ z ∈ l
  | [] => by simp [insD]
  | x :: xs => by
    have ih := insD_mem c z xs
    unfold insD
    by_cases c1 : x < c
    · rw [if_pos c1]
      simp only [List.mem_cons, ih]
      constructor
      · rintro (h | h | h)
        · exact .inr (.inl h)
        · exact .inl h
        · exact .inr (.inr h)
      · rintro (h | h | h)
        · exact .inr (.inl h)
        · exact .inl h
        · exact .inr (.inr h)
    · rw [if_neg c1]
      by_cases c2 : x = c
      · rw [if_pos c2, c2]
        simp only [List.mem_cons]
        constructor
        · exact .inr
        · rintro (h | h)
          · exact .inl h
          · exact h
      · rw [if_neg c2]
        simp only [List.mem_cons]
theorem insAll_ris : ∀ (es out : List Int) (lo : Int), (∀ e, e ∈ es → lo < e) → RisB lo out → RisB lo (insAll es out)
  | [], out, lo, _, h => h
  | e :: es, out, lo, he, h => insAll_ris es (insD e out) lo (fun x hx => he x (List.mem_cons_of_mem _ hx)) (insD_ris e out lo (he e (List.mem_cons_self ..)) h)
theorem insAll_mem (z : Int) : ∀ (es out : List Int), z ∈ insAll es out ↔ z ∈ es ∨ z ∈ out
  | [], out => by simp [insAll]
  | e :: es, out => by
    have := insAll_mem z es (insD e out)
    show z ∈ insAll es (insD e out) ↔ _
    rw [this, insD_mem, List.mem_cons]
    constructor
    · rintro (h | h | h)
      · exact .inl (.inr h)
      · exact .inl (.inl h)
      · exact .inr h
    · rintro ((h | h) | h)
      · exact .inr (.inl h)
      · exact .inl h
      · exact .inr (.inr h)
theorem insAll_len : ∀ (es out : List Int), (insAll es out).length ≤ out.length + es.length
  | [], out => by simp [insAll]
  | e :: es, out => by
    have h1 := insAll_len es (insD e out)
    have h2 := insD_len e out
    show (insAll es (insD e out)).length ≤ _
    rw [List.length_cons]
    omega
theorem ris_mem : ∀ {l : List Int} {lo : Int}, RisB lo l → ∀ e, e ∈ l → lo < e
  | x :: r, lo, h, e, he => by
    rcases List.mem_cons.1 he with rfl | he
    · exact h.1
    · have := ris_mem h.2 e he
      have := h.1
      omega
theorem ris_gap : ∀ {c : List Int} {lo : Int}, RisB lo c → ∀ (i : Nat) (u v : Int) (R : List Int), c.drop i = u :: v :: R → u < v ∧ ∀ e, e ∈ c → e ≤ u ∨ v ≤ e
  | [], lo, _, i, u, v, R, h => by simp at h
  | x :: c, lo, hr, 0, u, v, R, h => by
    have h0 : x :: c = u :: v :: R := h
    injection h0 with h1 h2
    subst h1
    subst h2
    refine ⟨hr.2.1, fun e he => ?_⟩
    rcases List.mem_cons.1 he with rfl | he
    · exact .inl (Int.le_refl _)
    · rcases List.mem_cons.1 he with rfl | he
      · exact .inr (Int.le_refl _)
      · have := ris_mem hr.2.2 e he
        exact .inr (by omega)
  | x :: c, lo, hr, i + 1, u, v, R, h => by
    have h0 : c.drop i = u :: v :: R := h
    obtain ⟨h1, h2⟩ := ris_gap hr.2 i u v R h0
    refine ⟨h1, fun e he => ?_⟩
    rcases List.mem_cons.1 he with rfl | he
    · have hu : u ∈ c := List.mem_of_mem_drop (by rw [h0]; exact List.mem_cons_self ..)
      have := ris_mem hr.2 u hu
      exact .inl (by omega)
    · exact h2 e he
theorem ris_last : ∀ {c : List Int} {lo : Int}, RisB lo c → ∀ (i : Nat) (u : Int), c.drop i = [u] → ∀ e, e ∈ c → e ≤ u
  | [], lo, _, i, u, h, e, he => by cases he
  | x :: c, lo, hr, 0, u, h, e, he => by
    have h0 : x :: c = [u] := h
    rw [h0] at he
    obtain rfl := List.mem_singleton.1 he
    exact Int.le_refl _
  | x :: c, lo, hr, i + 1, u, h, e, he => by
    have h0 : c.drop i = [u] := h
    rcases List.mem_cons.1 he with rfl | he
    · have hu : u ∈ c := List.mem_of_mem_drop (by rw [h0]; exact List.mem_cons_self ..)
      have := ris_mem hr.2 u hu
      omega
    · exact ris_last hr.2 i u h0 e he
theorem endsL_mem (x : Sp) : ∀ (L : List Sp), x ∈ L → x.f0 ∈ endsL L ∧ x.f1 ∈ endsL L
  | y :: L, h => by
    rcases List.mem_cons.1 h with rfl | h
    · exact ⟨by simp [endsL], by simp [endsL]⟩
    · obtain ⟨a, b⟩ := endsL_mem x L h
      exact ⟨by simp [endsL, a], by simp [endsL, b]⟩
theorem endsL_of (e : Int) : ∀ (L : List Sp), e ∈ endsL L → ∃ x, x ∈ L ∧ (e = x.f0 ∨ e = x.f1)
  | y :: L, h => by
    simp only [endsL, List.mem_cons] at h
    rcases h with h | h | h
    · exact ⟨y, by simp, .inl h⟩
    · exact ⟨y, by simp, .inr h⟩
    · obtain ⟨x, hx, he⟩ := endsL_of e L h
      exact ⟨x, by simp [hx], he⟩
/-- no end of a list of spans lies between two numbers: it has all of these, or none -/
theorem inB_const {L : List Sp} {c : List Int} (hm : ∀ x, x ∈ L → x.f0 ∈ c ∧ x.f1 ∈ c) {u v : Int} (hgap : ∀ e, e ∈ c → e ≤ u ∨ v ≤ e) {n : Int} (h0 : u ≤ n) (h1 : n < v) : inB L n = inB L u := by
  unfold inB
  rw [Bool.eq_iff_iff, List.any_eq_true, List.any_eq_true]
  constructor
  · rintro ⟨x, hx, h⟩
    refine ⟨x, hx, ?_⟩
    simp only [Bool.and_eq_true, decide_eq_true_eq] at h ⊢
    have a := hgap _ (hm x hx).1
    have b := hgap _ (hm x hx).2
    omega
  · rintro ⟨x, hx, h⟩
    refine ⟨x, hx, ?_⟩
    simp only [Bool.and_eq_true, decide_eq_true_eq] at h ⊢
    have a := hgap _ (hm x hx).1
    have b := hgap _ (hm x hx).2
    omega
theorem ev_if {α : Type} {c : Prop} [Decidable c] {f g : Nat → Option α} {r : α} (h : c) (k : Ev f r) : Ev (fun n => if c then f n else g n) r := Ev.congr (fun _ => if_pos h) k
theorem ev_else {α : Type} {c : Prop} [Decidable c] {f g : Nat → Option α} {r : α} (h : ¬ c) (k : Ev g r) : Ev (fun n => if c then f n else g n) r := Ev.congr (fun _ => if_neg h) k
theorem ev_some {α : Type} {o : Option α} {r : α} (h : o = some r) : Ev (fun _ => o) r := ⟨0, fun _ _ => h⟩
theorem ev_from {α : Type} {g : Nat → Option α} {r : α} (K : Nat) (h : ∀ k, K < k → g k = some r) : Ev g r := ⟨K + 1, fun k hk => h k (by omega)⟩
theorem ev_bind1 {α : Type} {g : Nat → Option α} {r : α} (h : Ev g r) : Ev (fun n => (g n).bind fun t => some t) r := Ev.congr (fun k => by cases g k <;> rfl) h
theorem ris_snoc : ∀ {P : List Int} {lo y x : Int}, RisB lo (P ++ [y]) → y < x → RisB lo (P ++ [y] ++ [x])
  | [], lo, y, x, h, hx => ⟨h.1, hx, trivial⟩
  | p :: P, lo, y, x, h, hx => ⟨h.1, ris_snoc (P := P) h.2 hx⟩
theorem ris_unique : ∀ (a b : List Int) (lo : Int), RisB lo a → RisB lo b → (∀ e, e ∈ a ↔ e ∈ b) → a = b
  | [], [], _, _, _, _ => rfl
  | [], y :: b, _, _, _, h => absurd ((h y).2 (List.mem_cons_self ..)) (by simp)
  | x :: a, [], _, _, _, h => absurd ((h x).1 (List.mem_cons_self ..)) (by simp)
  | x :: a, y :: b, lo, ha, hb, h => by
    have h1 := (h x).1 (List.mem_cons_self ..)
    have h2 := (h y).2 (List.mem_cons_self ..)
    have hxy : x = y := by
      rcases List.mem_cons.1 h1 with e | e
      · exact e
      · rcases List.mem_cons.1 h2 with f | f
        · exact f.symm
        · have a1 := ris_mem hb.2 x e
          have a2 := ris_mem ha.2 y f
          omega
    subst hxy
    rw [ris_unique a b x ha.2 hb.2 (fun e => by
      constructor
      · intro he
        rcases List.mem_cons.1 ((h e).1 (List.mem_cons_of_mem _ he)) with rfl | q
        · have := ris_mem ha.2 e he
          omega
        · exact q
      · intro he
        rcases List.mem_cons.1 ((h e).2 (List.mem_cons_of_mem _ he)) with rfl | q
        · have := ris_mem hb.2 e he
          omega
        · exact q)]
theorem comp_up (zs : List Int) (lo : Int) (hlo : ∀ z, z ∈ zs → lo < z) (hs : ∀ i j (hi : i < j) (hj : j < zs.length), zs[i]'(by omega) ≤ zs[j]) : ∀ m, 0 < m → m ≤ zs.length →
    ∃ P y, Go.Lib.compactUpTo zs.toArray m = P ++ [y] ∧ zs[m - 1]? = some y ∧ RisB lo (P ++ [y]) ∧ ∀ e, e ∈ P ++ [y] ↔ e ∈ zs.take m := by
  intro m
  induction m with
  | zero => intro h; exact absurd h (by omega)
  | succ m ih =>
    intro _ hm
    have hlt : m < zs.length := by omega
    have hget : zs.toArray[m]! = zs[m] := by simp [hlt]
    rw [Go.Lib.compactUpTo_succ, hget]
    by_cases c : m = 0
    · subst c
      refine ⟨[], zs[0], ?_, by simp [hlt], ⟨hlo _ (List.getElem_mem hlt), trivial⟩, fun e => ?_⟩
      · simp [Go.Lib.compactUpTo, Go.Lib.keeps]
      · rw [List.take_succ_eq_append_getElem hlt]
        simp
    · obtain ⟨P, y, h1, h2, h3, h4⟩ := ih (by omega) (by omega)
      have hy : zs[m - 1]'(by omega) = y := by
        rw [List.getElem?_eq_getElem (by omega)] at h2
        exact Option.some.inj h2
      have hget2 : zs.toArray[m - 1]! = y := by rw [← hy]; simp [show m - 1 < zs.length by omega]
      have hle := hs (m - 1) m (by omega) hlt
      rw [hy] at hle
      rw [List.take_succ_eq_append_getElem hlt, h1]
      by_cases k : zs[m] = y
      · have hk : Go.Lib.keeps zs.toArray m = false := Go.Lib.keeps_neg (by omega) (by rw [hget, hget2, k])
        rw [hk]
        refine ⟨P, y, by simp, by rw [Nat.add_sub_cancel, List.getElem?_eq_getElem hlt, k], h3, fun e => ?_⟩
        rw [List.mem_append (s := zs.take m), ← h4, k, List.mem_singleton]
        constructor
        · exact .inl
        · rintro (q | rfl)
          · exact q
          · simp
      · have hk : Go.Lib.keeps zs.toArray m = true := Go.Lib.keeps_pos (by rw [hget, hget2]; exact k)
        rw [hk, if_pos rfl]
        refine ⟨P ++ [y], zs[m], rfl, by rw [Nat.add_sub_cancel, List.getElem?_eq_getElem hlt], ris_snoc h3 (by omega), fun e => ?_⟩
        rw [List.mem_append, List.mem_append (s := zs.take m), h4]
theorem cutE_spec (ls : List (List Rg)) (lo : Int) (hlo : ∀ z, z ∈ endsS ls → lo < z) : RisB lo (cutE ls) ∧ ∀ e, e ∈ cutE ls ↔ e ∈ endsS ls := by
  have hperm : List.Perm (sortI (endsS ls)) (endsS ls) := List.mergeSort_perm _ _
  have hsorted : (sortI (endsS ls)).Pairwise (fun a b => decide (a ≤ b) = true) := List.pairwise_mergeSort (fun a b c h1 h2 => by simp at *; omega) (fun a b => by simp; omega) _
  unfold cutE
  obtain ⟨zs, hz⟩ : ∃ zs, sortI (endsS ls) = zs := ⟨_, rfl⟩
  rw [hz] at hperm hsorted ⊢
  by_cases c : zs.length = 0
  · have hnil := List.length_eq_zero_iff.1 c
    subst hnil
    refine ⟨trivial, fun e => ?_⟩
    rw [← hperm.mem_iff]
    simp [Go.Lib.compact, Go.Lib.compactUpTo]
  · obtain ⟨P, y, h1, _, h3, h4⟩ := comp_up zs lo (fun z h => hlo z (hperm.mem_iff.1 h)) (fun i j hi hj => by
      have := (List.pairwise_iff_getElem.1 hsorted) i j (by omega) hj hi
      simpa using this) zs.length (by omega) (Nat.le_refl _)
    have e0 : Go.Lib.compact zs = P ++ [y] := h1
    rw [e0]
    refine ⟨h3, fun e => ?_⟩
    rw [h4, List.take_length, hperm.mem_iff]
/-- in order, each with something in it -/
def NFw : Int → List Sp → Prop
  | _, [] => True
  | lo, x :: r => lo ≤ x.f0 ∧ x.f0 < x.f1 ∧ NFw x.f1 r
theorem NFw_lo : ∀ {L : List Sp} {lo : Int}, NFw lo L → ∀ n, inS L n → lo ≤ n
  | x :: L, lo, h, n, hn => by
    rcases (inS_cons x L n).1 hn with q | q
    · have q1 : x.f0 ≤ n := q.1
      have := h.1
      omega
    · have := NFw_lo h.2.2 n q
      have := h.1
      have := h.2.1
      omega
/-- a piece between neighbours of some numbers -/
def Piece (c : List Int) (x : Sp) : Prop := x.f0 ∈ c ∧ x.f1 ∈ c ∧ ∀ e, e ∈ c → e ≤ x.f0 ∨ x.f1 ≤ e
theorem sp_ext {x y : Sp} (h0 : x.f0 = y.f0) (h1 : x.f1 = y.f1) : x = y := by
  cases x
  cases y
  simp only at h0 h1
  rw [h0, h1]
theorem NFw_unique (c : List Int) : ∀ (a b : List Sp) (lo : Int), NFw lo a → NFw lo b → (∀ x, x ∈ a → Piece c x) → (∀ x, x ∈ b → Piece c x) → (∀ n, inS a n ↔ inS b n) → a = b
  | [], [], _, _, _, _, _, _ => rfl
  | [], y :: b, _, _, hb, _, _, h => absurd ((h y.f0).2 ⟨y, List.mem_cons_self .., Int.le_refl _, hb.2.1⟩) (inS_nil _)
  | x :: a, [], _, ha, _, _, _, h => absurd ((h x.f0).1 ⟨x, List.mem_cons_self .., Int.le_refl _, ha.2.1⟩) (inS_nil _)
  | x :: a, y :: b, lo, ha, hb, pa, pb, h => by
    have hx0 : y.f0 ≤ x.f0 := by
      rcases (inS_cons y b x.f0).1 ((h x.f0).1 ⟨x, List.mem_cons_self .., Int.le_refl _, ha.2.1⟩) with q | q
      · exact q.1
      · have := NFw_lo hb.2.2 _ q
        have := hb.2.1
        omega
    have hy0 : x.f0 ≤ y.f0 := by
      rcases (inS_cons x a y.f0).1 ((h y.f0).2 ⟨y, List.mem_cons_self .., Int.le_refl _, hb.2.1⟩) with q | q
      · exact q.1
      · have := NFw_lo ha.2.2 _ q
        have := ha.2.1
        omega
    obtain ⟨px0, px1, px2⟩ := pa x (List.mem_cons_self ..)
    obtain ⟨py0, py1, py2⟩ := pb y (List.mem_cons_self ..)
    have hx1 := ha.2.1
    have hy1 := hb.2.1
    have q1 := px2 _ py1
    have q2 := py2 _ px1
    have hxy : x = y := sp_ext (by omega) (by omega)
    subst hxy
    rw [NFw_unique c a b x.f1 ha.2.2 hb.2.2 (fun z hz => pa z (List.mem_cons_of_mem _ hz)) (fun z hz => pb z (List.mem_cons_of_mem _ hz)) (fun n => by
      have hn := h n
      rw [inS_cons, inS_cons] at hn
      constructor
      · intro q
        have := NFw_lo ha.2.2 n q
        rcases hn.1 (.inr q) with r | r
        · have r2 : n < x.f1 := r.2
          omega
        · exact r
      · intro q
        have := NFw_lo hb.2.2 n q
        rcases hn.2 (.inr q) with r | r
        · have r2 : n < x.f1 := r.2
          omega
        · exact r)]
def piecesX (b : Int) : Int → List Int → List Sp
  | _, [] => []
  | a, e :: E => if a < e ∧ e ≤ b then ⟨a, e⟩ :: piecesX b e E else piecesX b a E
theorem runX_is (b : Int) : ∀ (E : List Int) (a : Int) (out : List Sp), (runX b E (a, out)).2 = out ++ piecesX b a E
  | [], a, out => (List.append_nil out).symm
  | e :: E, a, out => by
    show (runX b E (stepX b (a, out) e)).2 = _
    unfold stepX piecesX
    by_cases c : a < e ∧ e ≤ b
    · rw [if_pos c, if_pos c, runX_is b E, List.append_assoc]
      rfl
    · rw [if_neg c, if_neg c, runX_is b E]
theorem cutX_is (E : List Int) (out : List Sp) (x : Sp) : cutX E out x = out ++ piecesX x.f1 x.f0 E := runX_is _ _ _ _
theorem outS_is (E : List Int) : ∀ (L : List Sp) (out : List Sp), L.foldl (cutX E) out = out ++ L.flatMap (fun x => piecesX x.f1 x.f0 E)
  | [], out => (List.append_nil out).symm
  | x :: L, out => by
    show L.foldl (cutX E) (cutX E out x) = _
    rw [outS_is E L, cutX_is, List.append_assoc]
    rfl
theorem pieces_off (b : Int) : ∀ (E : List Int) (a : Int), (∀ e, e ∈ E → b < e) → piecesX b a E = []
  | [], _, _ => rfl
  | e :: E, a, h => by
    have := h e (List.mem_cons_self ..)
    unfold piecesX
    rw [if_neg (by omega), pieces_off b E a (fun z hz => h z (List.mem_cons_of_mem _ hz))]
theorem pieces_spec (c : List Int) (b : Int) (hb : b ∈ c) : ∀ (E : List Int) (a lo : Int), RisB lo E → a ∈ c → (∀ e, e ∈ E → e ∈ c) → (∀ e, e ∈ c → e ≤ a ∨ e ∈ E) →
    NFw a (piecesX b a E) ∧ (∀ x, x ∈ piecesX b a E → Piece c x ∧ x.f1 ≤ b) ∧ ∀ n, inS (piecesX b a E) n ↔ a ≤ n ∧ n < b
  | [], a, lo, _, ha, _, hcov => by
    refine ⟨trivial, (fun x hx => by cases hx), fun n => ⟨fun h => absurd h (inS_nil n), fun h => ?_⟩⟩
    rcases hcov b hb with q | q
    · omega
    · cases q
  | e :: E, a, lo, hr, ha, hin, hcov => by
    by_cases c1 : a < e ∧ e ≤ b
    · obtain ⟨h1, h2, h3⟩ := pieces_spec c b hb E e e hr.2 (hin e (List.mem_cons_self ..)) (fun z hz => hin z (List.mem_cons_of_mem _ hz)) (fun z hz => by
        rcases hcov z hz with q | q
        · exact .inl (by omega)
        · rcases List.mem_cons.1 q with rfl | q
          · exact .inl (Int.le_refl _)
          · exact .inr q)
      rw [piecesX, if_pos c1]
      refine ⟨⟨Int.le_refl _, c1.1, h1⟩, fun x hx => ?_, fun n => ?_⟩
      · rcases List.mem_cons.1 hx with rfl | hx
        · refine ⟨⟨ha, hin e (List.mem_cons_self ..), fun z hz => ?_⟩, c1.2⟩
          rcases hcov z hz with q | q
          · exact .inl q
          · rcases List.mem_cons.1 q with rfl | q
            · exact .inr (Int.le_refl _)
            · have := ris_mem hr.2 z q
              exact .inr (by show e ≤ z; omega)
        · exact h2 x hx
      · rw [inS_cons, h3]
        show (a ≤ n ∧ n < e) ∨ _ ↔ _
        omega
    · rw [piecesX, if_neg c1]
      by_cases c2 : e ≤ a
      · exact pieces_spec c b hb E a e hr.2 ha (fun z hz => hin z (List.mem_cons_of_mem _ hz)) (fun z hz => by
          rcases hcov z hz with q | q
          · exact .inl q
          · rcases List.mem_cons.1 q with rfl | q
            · exact .inl c2
            · exact .inr q)
      · rw [pieces_off b E a (fun z hz => by have := ris_mem hr.2 z hz; omega)]
        refine ⟨trivial, (fun x hx => by cases hx), fun n => ⟨fun h => absurd h (inS_nil n), fun h => ?_⟩⟩
        rcases hcov b hb with q | q
        · omega
        · rcases List.mem_cons.1 q with q | q
          · omega
          · have := ris_mem hr.2 b q
            omega
theorem NFw_append : ∀ (A : List Sp) {B : List Sp} {lo m : Int}, NFw lo A → (∀ y, y ∈ A → y.f1 ≤ m) → lo ≤ m → NFw m B → NFw lo (A ++ B)
  | [], B, lo, m, _, _, hlm, hB => by
    cases B with
    | nil => trivial
    | cons y B => exact ⟨by have := hB.1; omega, hB.2⟩
  | x :: A, B, lo, m, h, hm, hlm, hB => ⟨h.1, h.2.1, NFw_append A h.2.2 (fun y hy => hm y (List.mem_cons_of_mem _ hy)) (hm x (List.mem_cons_self ..)) hB⟩
theorem out_spec (c : List Int) (hc : RisB (-1) c) : ∀ (L : List Sp) (lo : Int), NFb lo L → (∀ x, x ∈ L → x.f0 ∈ c ∧ x.f1 ∈ c) →
    NFw lo (L.flatMap (fun x => piecesX x.f1 x.f0 c)) ∧ (∀ x, x ∈ L.flatMap (fun x => piecesX x.f1 x.f0 c) → Piece c x) ∧ ∀ n, inS (L.flatMap (fun x => piecesX x.f1 x.f0 c)) n ↔ inS L n
  | [], lo, _, _ => ⟨trivial, (fun x hx => by cases hx), fun n => Iff.rfl⟩
  | x :: L, lo, h, hm => by
    obtain ⟨h1, h2, h3⟩ := out_spec c hc L x.f1 h.2.2 (fun y hy => hm y (List.mem_cons_of_mem _ hy))
    obtain ⟨m0, m1⟩ := hm x (List.mem_cons_self ..)
    obtain ⟨p1, p2, p3⟩ := pieces_spec c x.f1 m1 c x.f0 (-1) hc m0 (fun _ q => q) (fun _ q => .inr q)
    have k0 : lo < x.f0 := h.1
    have k1 : x.f0 < x.f1 := h.2.1
    rw [List.flatMap_cons]
    refine ⟨?_, fun y hy => ?_, fun n => ?_⟩
    · have hw : NFw lo (piecesX x.f1 x.f0 c) := by
        cases hp : piecesX x.f1 x.f0 c with
        | nil => trivial
        | cons y P =>
          rw [hp] at p1
          exact ⟨by have := p1.1; omega, p1.2⟩
      exact NFw_append _ hw (fun y hy => (p2 y hy).2) (by omega) h1
    · rcases List.mem_append.1 hy with q | q
      · exact (p2 y q).1
      · exact h2 y q
    · rw [inS_append, p3, h3, inS_cons]
def refP (f : Int → Bool) : List Int → List Sp
  | u :: v :: R => if f u = true then ⟨u, v⟩ :: refP f (v :: R) else refP f (v :: R)
  | _ => []
theorem refP_spec (T : List Sp) (c : List Int) (hm : ∀ x, x ∈ T → x.f0 ∈ c ∧ x.f1 ∈ c) : ∀ (R : List Int) (u lo : Int), RisB lo (u :: R) → (∀ e, e ∈ u :: R → e ∈ c) → (∀ e, e ∈ c → e ≤ u ∨ e ∈ R) →
    NFw u (refP (inB T) (u :: R)) ∧ (∀ x, x ∈ refP (inB T) (u :: R) → Piece c x) ∧ ∀ n, inS (refP (inB T) (u :: R)) n ↔ u ≤ n ∧ inS T n
  | [], u, lo, hr, hin, hcov => by
    refine ⟨trivial, (fun x hx => by cases hx), fun n => ⟨fun h => absurd h (inS_nil n), fun h => ?_⟩⟩
    obtain ⟨x, hx, h1, h2⟩ := h.2
    have h2' : n < x.f1 := h2
    rcases hcov _ (hm x hx).2 with q | q
    · omega
    · cases q
  | v :: R, u, lo, hr, hin, hcov => by
    have huv : u < v := hr.2.1
    obtain ⟨h1, h2, h3⟩ := refP_spec T c hm R v u hr.2 (fun e he => hin e (List.mem_cons_of_mem _ he)) (fun e he => by
      rcases hcov e he with q | q
      · exact .inl (by omega)
      · rcases List.mem_cons.1 q with rfl | q
        · exact .inl (Int.le_refl _)
        · exact .inr q)
    have hgap : ∀ e, e ∈ c → e ≤ u ∨ v ≤ e := fun e he => by
      rcases hcov e he with q | q
      · exact .inl q
      · rcases List.mem_cons.1 q with rfl | q
        · exact .inr (Int.le_refl _)
        · have := ris_mem hr.2.2 e q
          exact .inr (by omega)
    have hconst : ∀ n, u ≤ n → n < v → (inS T n ↔ inB T u = true) := fun n a b => by rw [← inB_iff, inB_const hm hgap a b]
    unfold refP
    by_cases g : inB T u = true
    · rw [if_pos g]
      refine ⟨⟨Int.le_refl _, huv, h1⟩, fun x hx => ?_, fun n => ?_⟩
      · rcases List.mem_cons.1 hx with rfl | hx
        · exact ⟨hin u (by simp), hin v (by simp), hgap⟩
        · exact h2 x hx
      · rw [inS_cons, h3]
        show (u ≤ n ∧ n < v) ∨ _ ↔ _
        constructor
        · rintro (⟨a, b⟩ | ⟨a, b⟩)
          · exact ⟨a, (hconst n a b).2 g⟩
          · exact ⟨by omega, b⟩
        · rintro ⟨a, b⟩
          by_cases d : n < v
          · exact .inl ⟨a, d⟩
          · exact .inr ⟨by omega, b⟩
    · rw [if_neg g]
      refine ⟨?_, h2, fun n => ?_⟩
      · cases hp : refP (inB T) (v :: R) with
        | nil => trivial
        | cons y P =>
          rw [hp] at h1
          exact ⟨by have := h1.1; omega, h1.2⟩
      · rw [h3]
        constructor
        · rintro ⟨a, b⟩
          exact ⟨by omega, b⟩
        · rintro ⟨a, b⟩
          by_cases d : n < v
          · exact absurd ((hconst n a d).1 b) g
          · exact ⟨by omega, b⟩
theorem endsS_flat : ∀ ls : List (List Rg), endsS ls = endsL (ls.flatMap spansS)
  | [] => rfl
  | l :: ls => by
    rw [List.flatMap_cons, endsL_append, ← endsS_flat ls]
    rfl
/-- an end of the union is an end of some span -/
theorem nf_ends {T L : List Sp} {lo : Int} (hL : NFb lo L) (h : ∀ n, inS L n ↔ inS T n) : ∀ x, x ∈ L → x.f0 ∈ endsL T ∧ x.f1 ∈ endsL T := by
  have key : ∀ (L : List Sp) (lo : Int), NFb lo L → ∀ x, x ∈ L → ¬ inS L (x.f0 - 1) ∧ ¬ inS L x.f1 := by
    intro L
    induction L with
    | nil => intro lo _ x hx; cases hx
    | cons y L ih =>
      intro lo hn x hx
      obtain ⟨n0, n1, n2⟩ := hn
      have hlt := fun n (q : inS L n) => NFb_lt n2 n q
      have n1' : y.f0 < y.f1 := n1
      rcases List.mem_cons.1 hx with rfl | hx
      · constructor
        · intro q
          rcases (inS_cons x L _).1 q with q | q
          · have : x.f0 ≤ x.f0 - 1 := q.1
            omega
          · have : x.f1 < x.f0 - 1 := hlt _ q
            omega
        · intro q
          rcases (inS_cons x L _).1 q with q | q
          · have : x.f1 < x.f1 := q.2
            omega
          · have : x.f1 < x.f1 := hlt _ q
            omega
      · obtain ⟨i1, i2⟩ := ih y.f1 n2 x hx
        have a1 : y.f1 < x.f0 := (NFb_mem n2 x hx).1
        have a2 : x.f0 < x.f1 := (NFb_mem n2 x hx).2
        constructor
        · intro q
          rcases (inS_cons y L _).1 q with q | q
          · have : x.f0 - 1 < y.f1 := q.2
            omega
          · exact i1 q
        · intro q
          rcases (inS_cons y L _).1 q with q | q
          · have : x.f1 < y.f1 := q.2
            omega
          · exact i2 q
  intro x hx
  obtain ⟨k1, k2⟩ := key L lo hL x hx
  have hlt : x.f0 < x.f1 := (NFb_mem hL x hx).2
  constructor
  · obtain ⟨y, hy, h1, h2⟩ := (h x.f0).1 ⟨x, hx, Int.le_refl _, hlt⟩
    have h1' : y.f0 ≤ x.f0 := h1
    have h2' : x.f0 < y.f1 := h2
    have he : y.f0 = x.f0 := by
      by_cases c : y.f0 = x.f0
      · exact c
      · exact absurd ((h (x.f0 - 1)).2 ⟨y, hy, by show y.f0 ≤ x.f0 - 1; omega, by show x.f0 - 1 < y.f1; omega⟩) k1
    rw [← he]
    exact (endsL_mem y T hy).1
  · obtain ⟨y, hy, h1, h2⟩ := (h (x.f1 - 1)).1 ⟨x, hx, by show x.f0 ≤ x.f1 - 1; omega, by show x.f1 - 1 < x.f1; omega⟩
    have h1' : y.f0 ≤ x.f1 - 1 := h1
    have h2' : x.f1 - 1 < y.f1 := h2
    have he : y.f1 = x.f1 := by
      by_cases c : y.f1 = x.f1
      · exact c
      · exact absurd ((h x.f1).2 ⟨y, hy, by show y.f0 ≤ x.f1; omega, by show x.f1 < y.f1; omega⟩) k2
    rw [← he]
    exact (endsL_mem y T hy).2
theorem raw_flat : ∀ ls : List (List Rg), rawS ls.flatten = ls.flatMap rawS
  | [] => rfl
  | l :: ls => by
    rw [List.flatten_cons, List.flatMap_cons, ← raw_flat ls]
    unfold rawS
    rw [List.flatMap_append]
theorem inS_flat {ls : List (List Rg)} (h : ∀ l, l ∈ ls → okR l = true) (n : Int) : inS (ls.flatMap spansS) n ↔ inS (ls.flatMap rawS) n := by
  induction ls with
  | nil => exact Iff.rfl
  | cons l ls ih =>
    rw [List.flatMap_cons, List.flatMap_cons, inS_append, inS_append, ih (fun m hm => h m (List.mem_cons_of_mem _ hm)), in_spans (h l (List.mem_cons_self ..))]
/-- the program's cells are the document's, in plain words -/
theorem cuts_same (ls : List (List Rg)) (h : ∀ l, l ∈ ls → okR l = true) (hf : okR ls.flatten = true) : outS (cutE ls) (spansS ls.flatten) = refP (inB (ls.flatMap spansS)) (insAll (endsL (ls.flatMap spansS)) []) := by
  obtain ⟨T, hT⟩ : ∃ T, ls.flatMap spansS = T := ⟨_, rfl⟩
  have oT : okS T := fun x hx => by
    rw [← hT] at hx
    obtain ⟨l, hl, hx⟩ := List.mem_flatMap.1 hx
    exact (spans_ok (h l hl)).1 x hx
  have hlo : ∀ z, z ∈ endsL T → -1 < z := fun z hz => by
    obtain ⟨x, hx, he⟩ := endsL_of z T hz
    have := oT x hx
    omega
  obtain ⟨c1, c2⟩ := cutE_spec ls (-1) (fun z hz => hlo z (by rw [endsS_flat, hT] at hz; exact hz))
  rw [endsS_flat] at c2
  rw [hT] at c2 ⊢
  have i1 := insAll_ris (endsL T) [] (-1) hlo trivial
  have i2 : ∀ e, e ∈ insAll (endsL T) [] ↔ e ∈ endsL T := fun e => by rw [insAll_mem]; simp
  have hcc : insAll (endsL T) [] = cutE ls := ris_unique _ _ (-1) i1 c1 (fun e => by rw [i2, c2])
  rw [hcc]
  obtain ⟨s1, s2⟩ := spans_ok hf
  have hin : ∀ n, inS (spansS ls.flatten) n ↔ inS T n := fun n => by rw [in_spans hf, raw_flat, ← inS_flat h, hT]
  have hends := nf_ends s2 hin
  obtain ⟨c, hc⟩ : ∃ c, cutE ls = c := ⟨_, rfl⟩
  rw [hc] at c1 c2 ⊢
  obtain ⟨o1, o2, o3⟩ := out_spec c c1 (spansS ls.flatten) (-1) s2 (fun x hx => ⟨(c2 _).2 (hends x hx).1, (c2 _).2 (hends x hx).2⟩)
  have ho : outS c (spansS ls.flatten) = (spansS ls.flatten).flatMap (fun x => piecesX x.f1 x.f0 c) := by
    unfold outS
    rw [outS_is, List.nil_append]
  rw [ho]
  have hmT : ∀ x, x ∈ T → x.f0 ∈ c ∧ x.f1 ∈ c := fun x hx => ⟨(c2 _).2 (endsL_mem x T hx).1, (c2 _).2 (endsL_mem x T hx).2⟩
  cases hcs : c with
  | nil =>
    have hTn : T = [] := by
      cases T with
      | nil => rfl
      | cons x T =>
        have := (hmT x (List.mem_cons_self ..)).1
        rw [hcs] at this
        cases this
    have hLn : spansS ls.flatten = [] := by
      cases hs : spansS ls.flatten with
      | nil => rfl
      | cons x L =>
        have := (hends x (by rw [hs]; exact List.mem_cons_self ..)).1
        rw [hTn] at this
        cases this
    rw [hLn]
    rfl
  | cons u R =>
    obtain ⟨r1, r2, r3⟩ := refP_spec T (u :: R) (fun x hx => by rw [← hcs]; exact hmT x hx) R u (-1) (by rw [← hcs]; exact c1) (fun _ q => q) (fun e he => by
      rcases List.mem_cons.1 he with rfl | q
      · exact .inl (Int.le_refl _)
      · exact .inr q)
    have hu : -1 ≤ u := by
      have := ris_mem c1 u (by rw [hcs]; exact List.mem_cons_self ..)
      omega
    have r1' : NFw (-1) (refP (inB T) (u :: R)) := by
      cases hp : refP (inB T) (u :: R) with
      | nil => trivial
      | cons y P =>
        rw [hp] at r1
        exact ⟨by have := r1.1; omega, r1.2⟩
    rw [hcs] at o1 o2 o3
    refine NFw_unique (u :: R) _ _ (-1) o1 r1' o2 r2 (fun n => ?_)
    rw [o3, hin, r3]
    constructor
    · intro q
      refine ⟨?_, q⟩
      obtain ⟨x, hx, h1, h2⟩ := q
      have h1' : x.f0 ≤ n := h1
      have hx0 := (hmT x hx).1
      rw [hcs] at hx0 c1
      rcases List.mem_cons.1 hx0 with e | e
      · omega
      · have := ris_mem c1.2 _ e
        omega
    · exact fun q => q.2
end Go.Proofs.Ytmmdnjooddhhoaa.Rn
