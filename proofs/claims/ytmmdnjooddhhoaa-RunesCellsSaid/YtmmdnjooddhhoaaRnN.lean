/- runes.Not. -/
import Derived.Test.YtmmdnjooddhhoaaRpN
set_option linter.unusedVariables false
set_option linter.unusedSimpArgs false
namespace Go.Proofs.Ytmmdnjooddhhoaa.Rn
open Go Go.RowKit Go.Proofs.YtmmdnjooddhhoaaW.PrintWords Go.Proofs.YtmmdnjooddhhoaaW.PrintLast Go.Proofs.YtmmdnjooddhhoaaW.PrintMore
/-- spans as ranges -/
def valS (n : Int) : Int := (runes_value.f n).getD 0
theorem val_f (n : Int) : runes_value.f n = some (valS n) := by
  unfold valS runes_value.f
  by_cases h : n < 55296
  · simp only [if_pos h, Option.getD_some]
  · simp only [if_neg h, Option.getD_some]
def rgS (x : Sp) : Rg := ⟨valS x.f0, valS (wrap64 (x.f1 - 1))⟩
theorem ranges_l (L : List Sp) (hL : L.length ≤ 2000000) (d : Nat) : ∀ (k i : Nat), i ≤ L.length → L.length - i = d → d < k → runes_ranges.l0 k ((L.take i).map rgS) L (L.length : Int) (i : Int) = some (L.map rgS) := by
  induction d with
  | zero =>
    intro k i h1 h2 hk
    obtain ⟨k, rfl⟩ : ∃ m, k = m + 1 := ⟨k - 1, by omega⟩
    simp only [runes_ranges.l0]
    rw [if_neg (by omega), List.take_of_length_le (by omega)]
  | succ d ih =>
    intro k i h1 h2 hk
    obtain ⟨k, rfl⟩ : ∃ m, k = m + 1 := ⟨k - 1, by omega⟩
    have hi : i < L.length := by omega
    simp only [runes_ranges.l0]
    rw [if_pos (by omega), if_pos (by omega), if_pos (by omega), val_f]
    simp only [Option.bind_some]
    rw [val_f]
    simp only [Option.bind_some]
    rw [if_pos (by rw [List.length_map, List.length_take]; omega)]
    have e1 : rd_T50 L (i : Int) = L[i] := by
      unfold rd_T50
      rw [Int.toNat_natCast, List.getD_eq_getElem?_getD, List.getElem?_eq_getElem hi]
      rfl
    have e2 : wrap64 ((i : Int) + 1) = ((i + 1 : Nat) : Int) := by unfold wrap64; omega
    rw [e1, e2]
    have e3 : (L.take i).map rgS ++ [(⟨valS L[i].f0, valS (wrap64 (L[i].f1 - 1))⟩ : Rg)] = (L.take (i + 1)).map rgS := by
      rw [List.take_succ_eq_append_getElem hi, List.map_append]
      rfl
    rw [e3]
    exact ih k (i + 1) (by omega) (by omega) (by omega)
theorem ranges_f (L : List Sp) (hL : L.length ≤ 2000000) : runes_ranges.f (L.length + 1) L = some (L.map rgS) := by
  have h := ranges_l L hL L.length (L.length + 1) 0 (by omega) (by omega) (by omega)
  exact h
/-- one gap more -/
def upS (at_ n : Int) (O : List Sp) : List Sp := if at_ < n then O ++ [⟨at_, n⟩] else O
theorem upS_len (at_ n : Int) (O : List Sp) : (upS at_ n O).length ≤ O.length + 1 := by
  unfold upS
  split <;> simp
theorem kept_types {W w1 : World} {v : Value} {base : Nat} {xs : List Sp} {g t : Nat} {cells : Array Value} (hR : Kd.R k50 50 W base (fun _ => True) v xs) (hg : W.grownBy w1 v.ownBlock) (hb : W.heap[g]? = some (.cells cells t (0, 0))) (ht : 50 ≠ t) : w1.heap[g]? = some (.cells cells t (0, 0)) := by
  refine (hg.block g (blk_lt hb) (fun e => ?_)).trans hb
  obtain ⟨_, inner, ho, _⟩ := hR
  obtain ⟨c2, hc⟩ := own_typed ho g e.symm
  rw [hb] at hc
  injection hc with hc
  injection hc with _ hc
  exact ht hc.symm
/-- the two captured variables, known whole -/
def UpAt (base ga go : Nat) (at_ : Int) (O : List Sp) (W : World) : Prop := ∃ A c, W.heap[ga]? = some (.cells #[.int .i64 at_] 3 (0, 0)) ∧ W.heap[go]? = some (.cells #[.slice A O.length c] 40 (0, 0)) ∧ Kd.R k50 50 W base (fun _ => True) (.slice A O.length c) O
/-- .. behind a call of the closure -/
def UpPost (base ga go : Nat) (at_ : Int) (O : List Sp) (b : Option Nat) (W w' : World) : Prop := UpAt base ga go at_ O w' ∧ Kept W w' (fun j => j = go ∨ some j = b) ∧ w'.os = W.os ∧ w'.tape = W.tape ∧ w'.output = W.output
set_option maxHeartbeats 2000000 in
set_option maxRecDepth 100000 in
theorem up_any (base ga go : Nat) (at_ n : Int) (O : List Sp) (A : Option Addr) (c : Nat) (W : World) (ha : W.heap[ga]? = some (.cells #[.int .i64 at_] 3 (0, 0))) (ho : W.heap[go]? = some (.cells #[.slice A O.length c] 40 (0, 0)))
    (hR : Kd.R k50 50 W base (fun _ => True) (.slice A O.length c) O) (hb : base ≤ W.heap.size) (hl : O.length ≤ 2000000) :
    Calls Try.prog 39 #[.int .i64 n, .pointer (some ⟨ga, 0, none⟩), .pointer (some ⟨go, 0, none⟩)] W fun e w' => e = .returned (.tuple #[]) ∧ UpPost base ga go at_ (upS at_ n O) (Value.slice A O.length c).ownBlock W w' := by
  have a0 : W.cell? ⟨ga, 0, none⟩ = some (.int .i64 at_) := (blk_cell ha 0).trans rfl
  have o0 : W.cell? ⟨go, 0, none⟩ = some (.slice A O.length c) := (blk_cell ho 0).trans rfl
  have HA := Aside0.mk ha
  have HO := Aside0.mk ho
  have HR := Aside0.mk hR
  have hne : ga ≠ go := fun e => by
    subst e
    rw [ha] at ho
    injection ho with ho
    injection ho with _ ho
    exact absurd ho (by decide)
  clear ha ho hR
  by_cases h : at_ < n
  · have hu : upS at_ n O = O ++ [⟨at_, n⟩] := by unfold upS; rw [if_pos h]
    have HU := Aside0.mk hu
    clear hu
    go_enter Try.func39, Try.ntmps39
    go_wp2_with ((with_reducible refine gate_builtin (b := .append) (xs := #[.tmp 7, .tmp 11]) rfl ?_); refine R_append50 rfl (w0 := W) base rfl (.tmp 7) (.tmp 11) rfl A c O.length O ⟨at_, n⟩ rfl rfl rfl HR.out (Below.refl _ _) hb ?hl1 ?_; (case hl1 => omega); intro A5 c5 w5 hR5 hb5 hg5 hn5; have HA5 := Aside0.mk (kept_types HR.out hg5 HA.out (by decide)); have HO5 := Aside0.mk (kept_types HR.out hg5 HO.out (by decide)); have o5 : w5.cell? ⟨go, 0, none⟩ = some (.slice A O.length c) := (blk_cell HO5.out 0).trans rfl; have f5 := blk_frozen HO5.out 0)
    first | go_end0 | refine bodyPost_ret (results_none rfl _ _ _) rfl ?_
    refine ⟨rfl, ⟨A5, c5, blk_far HA5.out (show ga ≠ (⟨go, 0, none⟩ : Addr).block from hne) _, ?_, ?_⟩, ?_, hg5.os, hg5.tape, hg5.output⟩
    · rw [HU.out, List.length_append]
      exact blk_put HO5.out 0 _ rfl
    · rw [HU.out, List.length_append]
      exact Kd.R_set hR5 HO5.out (by decide) 0 _
    · exact (Kept.of_grown hg5 (Kept.refl _ _) (fun k hk => .inl (.inr hk.symm))).setCell (p := ⟨go, 0, none⟩) (.inl (.inl rfl)) _
  · have hu : upS at_ n O = O := by unfold upS; rw [if_neg h]
    rw [hu]
    have hd : decide (at_ < n) = false := decide_eq_false h
    clear hu
    go_enter Try.func39, Try.ntmps39
    go_wp2
    first | go_end0 | refine bodyPost_ret (results_none rfl _ _ _) rfl ?_
    exact ⟨rfl, ⟨A, c, HA.out, HO.out, HR.out⟩, Kept.refl _ _, rfl, rfl, rfl⟩
/-- the gaps so far: where the last span ended, and what is out -/
def stepG (st : Int × List Sp) (x : Sp) : Int × List Sp := (x.f1, upS st.1 x.f0 st.2)
def gapsG (L : List Sp) : Int × List Sp := L.foldl stepG (0, [])
theorem gapsG_snoc (L : List Sp) (x : Sp) : gapsG (L ++ [x]) = stepG (gapsG L) x := by simp [gapsG]
theorem gapsG_len (L : List Sp) : ∀ k, (gapsG (L.take k)).2.length ≤ k := by
  intro k
  induction k with
  | zero => simp [gapsG]
  | succ k ih =>
    by_cases h : k < L.length
    · rw [List.take_succ_eq_append_getElem h, gapsG_snoc]
      have := upS_len (gapsG (L.take k)).1 L[k].f0 (gapsG (L.take k)).2
      show (upS _ _ _).length ≤ _
      omega
    · rw [List.take_of_length_le (by omega)]
      rw [List.take_of_length_le (by omega)] at ih
      omega
def gapS (L : List Sp) : List Sp := upS (gapsG L).1 1112064 (gapsG L).2
def notS (l : List Rg) : List Rg := (gapS (spansS l)).map rgS
def runes_Not.f (l0 : List Rg) : Option (List Rg) := if okR l0 = true then some (notS l0) else none
theorem spansS_len (l : List Rg) : (spansS l).length ≤ l.length := by
  unfold spansS nfS
  have h := mergeS_len (sortS (rawS l)) (sortS (rawS l)).length
  rw [List.take_length] at h
  have h2 : ∀ m : List Sp, (sortS m).length = m.length := fun m => by
    induction m with
    | nil => rfl
    | cons x m ih =>
      have h3 : ∀ (y : Sp) (q : List Sp), (insS y q).length = q.length + 1 := fun y q => by
        induction q with
        | nil => rfl
        | cons z q ih2 =>
          unfold insS
          split
          · rfl
          · simp [ih2]
      rw [sortS, h3, ih, List.length_cons]
  rw [h2] at h
  have := rawS_len l
  omega
/-- a row of spans that is read, by plain addresses -/
theorem sp_cells {w : World} {A : Option Addr} {xs : List Sp} (h : k50.C w A xs.length xs) (hn : 0 < xs.length) :
    ∃ g o, A = some ⟨g, o, none⟩ ∧ g < w.heap.size ∧ ∀ j x, xs[j]? = some x → w.cell? ⟨g, o + j * 2, none⟩ = some (.int .i64 x.f0) ∧ w.cell? ⟨g, o + j * 2 + 1, none⟩ = some (.int .i64 x.f1) := by
  obtain ⟨ad, rfl, hc⟩ := h.2.2 hn
  obtain ⟨g, o, sp⟩ := ad
  have h0 : ∃ v, w.cell? ⟨g, o, sp⟩ = some v := by
    obtain ⟨c, hl, hR, hcc⟩ := hc 0 xs[0] (by simp)
    have hR' := k50_open hR
    subst hR'
    have h1 := hcc 0 _ rfl
    exact ⟨_, by simpa [Addr.add, Nat.zero_mul] using h1⟩
  obtain ⟨v, hv⟩ := h0
  obtain rfl := cell_spot hv
  refine ⟨g, o, rfl, World.block_lt_of_cell? w _ hv, fun j x hx => ?_⟩
  obtain ⟨c, hl, hR, hcc⟩ := hc j x hx
  have hR' := k50_open hR
  subst hR'
  have hk : ∀ i u, ([.int .i64 x.f0, .int .i64 x.f1] : List Value)[i]? = some u → w.cell? ⟨g, o + j * 2 + i, none⟩ = some u := fun i u hu => by
    have := hcc i u hu
    rw [add_at] at this
    rw [Nat.add_assoc]
    exact this
  exact ⟨hk 0 _ rfl, hk 1 _ rfl⟩
theorem below_kept {B : Nat} {w W W' : World} {S : Nat → Prop} (h : Below B w W) (hle : B ≤ W.heap.size) (k : Kept W W' S) (hS : ∀ j, j < B → ¬ S j) (ho : W'.os = W.os ∧ W'.tape = W.tape ∧ W'.output = W.output) : Below B w W' :=
  ⟨ho.1.trans h.os, ho.2.1.trans h.tape, ho.2.2.trans h.output, Nat.le_trans h.size k.1, fun j hj => (k.2 j (by omega) (hS j hj)).trans (h.block j hj)⟩
/-- the loop's world -/
def NotAt (w w2 : World) (ga go : Nat) (L : List Sp) (k : Nat) (W : World) : Prop :=
  UpAt w2.heap.size ga go (gapsG (L.take k)).1 (gapsG (L.take k)).2 W ∧ Kept w2 W (fun j => j = ga ∨ j = go) ∧ Below w.heap.size w W
set_option maxHeartbeats 2000000 in
set_option maxRecDepth 100000 in
theorem runes_Not.calls (A0 : Option Addr) (c0 : Nat) (l0 : List Rg) (r : List Rg) (w : World) (hr0 : Kd.C k35 w A0 l0.length l0) (hc0 : l0.length ≤ c0) (h : runes_Not.f l0 = some r) :
    Calls Try.prog 22 #[.slice A0 l0.length c0] w fun e w' => ∃ v0_ : Value, e = .returned (v0_) ∧ Kd.R k35 35 w' w.heap.size (fun _ => True) v0_ r ∧ Below w.heap.size w w' := by
  have hok : okR l0 = true := by
    unfold runes_Not.f at h
    by_cases h1 : okR l0 = true
    · exact h1
    · rw [if_neg h1] at h
      cases h
  have hr : notS l0 = r := by
    unfold runes_Not.f at h
    rw [if_pos hok] at h
    exact Option.some.inj h
  have hl : l0.length ≤ 1000000 := by
    unfold okR at hok
    simp only [Bool.and_eq_true, decide_eq_true_eq] at hok
    exact hok.1
  have HF : Aside0 (runes_spans.f l0 = some (spansS l0)) := ⟨by unfold runes_spans.f; rw [if_pos hok]⟩
  have HR := Aside0.mk hr
  have HC := Aside0.mk hr0
  have hll := spansS_len l0
  clear h hok hr hr0
  go_enter Try.func22, Try.ntmps22
  go_wp2_with fail
  obtain ⟨w1, hw1⟩ : ∃ w1, (w.alloc (Obj.cells #[.slice none 0 0] 40)).alloc (Obj.cells #[.int .i64 0] 3) = w1 := ⟨_, rfl⟩
  rw [hw1]
  have HO1 : Aside0 (w1.heap[w.heap.size]? = some (.cells #[.slice none 0 0] 40 (0, 0))) := ⟨by rw [← hw1]; exact ((below1 _ _).block _ (by simp)).trans (blk_new w _)⟩
  have HA1 : Aside0 (w1.heap[w.heap.size + 1]? = some (.cells #[.int .i64 0] 3 (0, 0))) := ⟨by
    have h := blk_new (w.alloc (Obj.cells #[.slice none 0 0] 40)) (Obj.cells #[.int .i64 0] 3)
    rw [hw1] at h
    simpa using h⟩
  have HB1 : Aside0 (Below w.heap.size w w1) := ⟨hw1 ▸ below_alloc (below1 w _) _⟩
  have hs1 : w1.heap.size = w.heap.size + 2 := by rw [← hw1]; simp
  have HS1 := Aside0.mk hs1
  clear hw1 hs1
  refine (runes_spans.calls A0 c0 l0 (spansS l0) w1 (Kd.C_below HC.out HB1.out) hc0 HF.out).mono ?_
  rintro e w2 ⟨v0, rfl, hR2, hb2⟩
  obtain ⟨A5, c5, rfl⟩ := Kd.R_slice hR2
  have HN : Aside0 ((gapS (spansS l0)).map rgS = r) := ⟨HR.out⟩
  obtain ⟨L, hL⟩ : ∃ L, spansS l0 = L := ⟨_, rfl⟩
  rw [hL] at hR2 hll HN ⊢
  have HCL : Aside0 (∀ W, Kept w2 W (fun j => j = w.heap.size + 1 ∨ j = w.heap.size) → Kd.C k50 W A5 L.length L) := ⟨Kd.C_kept_own (Kd.R_mono (Kd.R_bound hR2) (fun k hk => hk.2.1)) (fun k hk hh => by have := HS1.out; omega)⟩
  have HO2 := Aside0.mk ((hb2.block _ (blk_lt HO1.out)).trans HO1.out)
  have HA2 := Aside0.mk ((hb2.block _ (blk_lt HA1.out)).trans HA1.out)
  have HB2 := Aside0.mk (join_below HB1.out hb2)
  have HS2 : Aside0 (w.heap.size + 2 ≤ w2.heap.size) := ⟨by have := HS1.out; have := hb2.size; omega⟩
  have hLl : L.length ≤ 1000000 := by omega
  clear hL hR2 hb2 HO1 HA1 HB1 HS1 hll HR HF
  go_wp2_with fail
  go_loopw [12] (fun i W => ∃ k : Nat, i = .int .i64 k ∧ k ≤ L.length ∧ Aside0 (NotAt w w2 (w.heap.size + 1) w.heap.size L k W)) (fun i _ => L.length - (intOf i).toNat)
  case atStart => exact ⟨0, rfl, Nat.zero_le _, ⟨⟨none, 0, HA2.out, HO2.out, Kd.R_nil _ _ _ _ _⟩, Kept.refl _ _, HB2.out⟩⟩
  case round =>
    obtain ⟨k, rfl, hkl, HK⟩ := hrel
    obtain ⟨⟨A, c, ha, ho, hR⟩, hk, hB⟩ := HK.out
    have hOl := gapsG_len L k
    by_cases hlt : k < L.length
    · have hx : L[k]? = some L[k] := List.getElem?_eq_getElem hlt
      have hst : gapsG (L.take (k + 1)) = stepG (gapsG (L.take k)) L[k] := by rw [List.take_succ_eq_append_getElem hlt, gapsG_snoc]
      obtain ⟨g5, o5, e5, _, hcx⟩ := sp_cells (HCL.out wr hk) (by omega)
      subst e5
      obtain ⟨x, hxx⟩ : ∃ x, L[k] = x := ⟨_, rfl⟩
      rw [hxx] at hx hst
      obtain ⟨z0, z1⟩ := hcx k x hx
      obtain ⟨⟨at_, O⟩, hst0⟩ : ∃ st, gapsG (L.take k) = st := ⟨_, rfl⟩
      rw [hst0] at ha ho hR hst hOl
      dsimp only at ha ho hR hOl
      have HST := Aside0.mk hst
      have HAw := Aside0.mk ha
      have HOw := Aside0.mk ho
      have HRw := Aside0.mk hR
      have HKw := Aside0.mk hk
      have HBw := Aside0.mk hB
      obtain ⟨xa, xb⟩ := x
      dsimp only at z0 z1
      clear hx hst hcx hxx hst0 ha ho hR hk hB HK
      go_wp2_with (go_at_call 39; refine (up_any w2.heap.size (w.heap.size + 1) w.heap.size at_ xa O A c _ ?h1 ?h2 ?h3 ?h4 ?h5).mono ?_; (case h1 => exact ((below1 wr _).block _ (blk_lt HAw.out)).trans HAw.out); (case h2 => exact ((below1 wr _).block _ (blk_lt HOw.out)).trans HOw.out); (case h3 => exact Kd.R_alloc HRw.out _); (case h4 => have := HKw.out.1; simp; omega); (case h5 => omega); rintro e w4 ⟨rfl, hp⟩; have HP := Aside0.mk hp; have hbx : w4.heap[wr.heap.size]? = some (.cells #[.int .i64 xa, .int .i64 xb] 50 (0, 0)) := blk_kept (blk_new wr _) hp.2.1 (fun hh => hh.elim (fun h7 => by have := blk_lt HOw.out; omega) (fun h7 => by have := Kd.R_lt HRw.out _ h7.symm; omega)); have c91 : w4.cell? ⟨wr.heap.size, 1, none⟩ = some (.int .i64 xb) := (blk_cell hbx 1).trans rfl; obtain ⟨⟨A6, c6, ha6, ho6, hR6⟩, hk6, hos⟩ := hp; have a6 : w4.cell? ⟨w.heap.size + 1, 0, none⟩ = some (.int .i64 at_) := (blk_cell ha6 0).trans rfl; have f6 := blk_frozen ha6 0; have HA6 := Aside0.mk ha6; have HO6 := Aside0.mk ho6; have HR6 := Aside0.mk hR6; have HK6 := Aside0.mk hk6; have HOS := Aside0.mk hos; clear hbx ha6 ho6 hR6 hk6 hos HP)
      go_roundw
      case rel =>
        refine ⟨k + 1, by go_num, by omega, ⟨?_⟩⟩
        unfold NotAt
        rw [HST.out]
        refine ⟨⟨A6, c6, blk_put HA6.out 0 _ rfl, blk_far HO6.out (show w.heap.size ≠ w.heap.size + 1 by omega) _, Kd.R_set HR6.out HA6.out (by decide) 0 _⟩, ?_, ?_⟩
        · exact (((HKw.out.alloc _).then_ HK6.out (fun j hj => hj.elim (fun h7 => .inl (.inr h7)) (fun h7 => .inr (Kd.R_base HRw.out _ h7.symm))))).setCell (p := ⟨w.heap.size + 1, 0, none⟩) (.inl (.inl rfl)) _
        · exact (below_kept (below_alloc HBw.out _) (by have := HBw.out.size; simp; omega) HK6.out (fun j hj hh => hh.elim (fun h7 => by omega) (fun h7 => by have := Kd.R_base HRw.out _ h7.symm; have := HS2.out; omega)) HOS.out).setCell (p := ⟨w.heap.size + 1, 0, none⟩) (show w.heap.size ≤ w.heap.size + 1 by omega) _
      case measure => simp [intOf]; omega
    · have e : L.take k = L := List.take_of_length_le (by omega)
      rw [e] at ha ho hR hOl
      obtain ⟨⟨at_, O⟩, hst0⟩ : ∃ st, gapsG L = st := ⟨_, rfl⟩
      have hg : gapS L = upS at_ 1112064 O := by unfold gapS; rw [hst0]
      rw [hst0] at ha ho hR hOl
      dsimp only at ha ho hR hOl
      rw [hg] at HN
      have HAw := Aside0.mk ha
      have HOw := Aside0.mk ho
      have HRw := Aside0.mk hR
      have HBw := Aside0.mk hB
      have hwl : w2.heap.size ≤ wr.heap.size := hk.1
      have hul := upS_len at_ 1112064 O
      clear e hst0 hg ha ho hR hk hB HK
      go_wp2_with fail
      refine (up_any w2.heap.size (w.heap.size + 1) w.heap.size at_ 1112064 O A c _ HAw.out HOw.out HRw.out hwl (by omega)).mono ?_
      rintro e w4 ⟨rfl, ⟨A6, c6, ha6, ho6, hR6⟩, hk6, hos⟩
      have HR6 := Aside0.mk hR6
      have o6 : w4.cell? ⟨w.heap.size, 0, none⟩ = some (.slice A6 (upS at_ 1112064 O).length c6) := (blk_cell ho6 0).trans rfl
      have HB6 : Aside0 (Below w.heap.size w w4) := ⟨below_kept HBw.out (HBw.out.size) hk6 (fun j hj hh => hh.elim (fun h7 => by omega) (fun h7 => by have := Kd.R_base HRw.out _ h7.symm; have := HS2.out; omega)) hos⟩
      have HO6L : Aside0 ((upS at_ 1112064 O).length ≤ 2000000) := ⟨by omega⟩
      clear ha6 ho6 hR6 hk6 hos hul
      obtain ⟨Z, hZ⟩ : ∃ Z, upS at_ 1112064 O = Z := ⟨_, rfl⟩
      rw [hZ] at HR6 o6 HO6L HN
      clear hZ
      go_wp2_with fail
      refine (runes_ranges.calls (Z.length + 1) A6 c6 Z r _ (Kd.R_reads' HR6.out).2.2 (Kd.R_reads' HR6.out).2.1 (by rw [ranges_f Z HO6L.out, HN.out])).mono ?_
      rintro e w7 ⟨v7, rfl, hR7, hb7⟩
      go_wp2
      go_ret
      exact ⟨_, rfl, Kd.R_lower hR7 HB6.out.size, join_below HB6.out hb7⟩
end Go.Proofs.Ytmmdnjooddhhoaa.Rn
