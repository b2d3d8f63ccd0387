/- texts of this claim, one behind the other. -/
import Derived.Test.YthdfmbmbjpmlaaaDoorMGPa
import Derived.RangeFuncBox
section
set_option linter.unusedVariables false
set_option linter.unusedSimpArgs false
namespace Go.Proofs.YthdfmbmbjpmlaaaDoor.Rn
open Go Go.RowKit Go.Proofs.YthdfmbmbjpmlaaaDoorW.PrintWords Go.Proofs.YthdfmbmbjpmlaaaDoorW.PrintLast Go.Proofs.YthdfmbmbjpmlaaaDoorW.PrintMore
section
variable {bc : Nat} {AT : Option Addr} {T : List Tok} {ct : Nat} {AR : Option Addr} {R : List Rul} {cr : Nat} {wh : Int} {W : World}
theorem must_yes (code : Int) (hc : CourtAt bc AT T ct AR R cr wh W) :
 Calls Tryd.prog 29 #[.pointer (some ⟨bc, 0, none⟩), .bool true, .int .i64 code] W fun e w' => e = .returned (.tuple #[]) ∧ Below W.heap.size W w' :=
 (must_any bc AT T ct AR R cr wh true code W hc).mono fun e w' h => ⟨h.2, h.1⟩
theorem must_no (code : Int) (hc : CourtAt bc AT T ct AR R cr wh W) :
 Calls Tryd.prog 29 #[.pointer (some ⟨bc, 0, none⟩), .bool false, .int .i64 code] W fun e w' => e = .panicked [{ v := faultV code wh, recovered := false }] ∧ Below W.heap.size W w' :=
 (must_any bc AT T ct AR R cr wh false code W hc).mono fun e w' h => ⟨h.2, h.1⟩
theorem CourtAt.later {W' : World} (h : CourtAt bc AT T ct AR R cr wh W) (hb : Below W.heap.size W W') : CourtAt bc AT T ct AR R cr wh W' := blk_below h hb
theorem CourtPost.ok {W' : World} (h : Below W.heap.size W W') : CourtPost wh none W (.returned (.tuple #[])) W' := ⟨h, rfl⟩
theorem CourtPost.bad {W' : World} {c : Int} (h : Below W.heap.size W W') : CourtPost wh (some c) W (.panicked [{ v := faultV c wh, recovered := false }]) W' := ⟨h, rfl⟩
end
def classS (n : Int) : Option Int := if 0 ≤ n ∧ n ≤ 31 then none else some 6
set_option maxHeartbeats 1000000 in
theorem class_any (bc : Nat) (AT : Option Addr) (T : List Tok) (ct : Nat) (AR : Option Addr) (R : List Rul) (cr : Nat) (wh : Int) (n : Int) (W : World) (hc : CourtAt bc AT T ct AR R cr wh W) :
 Calls Tryd.prog 42 #[.pointer (some ⟨bc, 0, none⟩), .int .i64 n] W (CourtPost wh (classS n) W) := by
 have HC := Aside0.mk hc
 clear hc
 by_cases c1 : 0 ≤ n
 · by_cases c2 : n ≤ 31
   · have HR : Aside0 (classS n = none) := ⟨if_pos ⟨c1, c2⟩⟩
     rw [HR.out]
     go_enter Tryd.func42, Tryd.ntmps42
     go_wp2_with fail
     refine (must_yes 6 HC.out).mono ?_
     rintro e w2 ⟨rfl, hb⟩
     have HB := Aside0.mk hb
     clear hb
     go_wp2
     first | go_end0 | refine bodyPost_ret (results_none rfl _ _ _) rfl ?_
     exact CourtPost.ok HB.out
   · have HR : Aside0 (classS n = some 6) := ⟨if_neg (fun h => c2 h.2)⟩
     have d2 : decide (n ≤ 31) = false := decide_eq_false c2
     rw [HR.out]
     go_enter Tryd.func42, Tryd.ntmps42
     go_wp2_with fail
     refine (must_no 6 HC.out).mono ?_
     rintro e w2 ⟨rfl, hb⟩
     have HB := Aside0.mk hb
     clear hb
     go_wp2
     exact ⟨rfl, CourtPost.bad HB.out⟩
 · have HR : Aside0 (classS n = some 6) := ⟨if_neg (fun h => c1 h.1)⟩
   have d1 : decide (0 ≤ n) = false := decide_eq_false c1
   rw [HR.out]
   go_enter Tryd.func42, Tryd.ntmps42
   go_wp2_with fail
   refine (must_no 6 HC.out).mono ?_
   rintro e w2 ⟨rfl, hb⟩
   have HB := Aside0.mk hb
   clear hb
   go_wp2
   exact ⟨rfl, CourtPost.bad HB.out⟩
theorem rdOf_at (l : List ByteArray) (i : Nat) (hi : i < l.length) : rdOf ByteArray.empty l (i : Int) = l[i] := by
 unfold rdOf
 rw [Int.toNat_natCast, List.getD_eq_getElem?_getD, List.getElem?_eq_getElem hi]
 rfl
def hasT (l : List ByteArray) (s : ByteArray) : Bool := l.any (fun t => decide (s = t))
theorem index_l (l : List ByteArray) (s : ByteArray) (hl : l.length ≤ 9223372036854775807) (d : Nat) : ∀ i : Nat, i ≤ l.length → l.length - i = d → Ev (fun k => (slices_Index_string_string.l0 k l s (l.length : Int) (i : Int)).map (fun v => decide (v ≥ 0))) (hasT (l.drop i) s) := by
 induction d with
 | zero =>
  intro i h1 h2
  refine Ev.step (f := fun _ => some false) (fun k => ?_) ?_
  · simp only [slices_Index_string_string.l0]
    rw [if_neg (by omega)]
    rfl
  · rw [List.drop_of_length_le (by omega)]
    exact Ev.now _
 | succ d ih =>
  intro i h1 h2
  have hi : i < l.length := by omega
  have hrd := rdOf_at l i hi
  have hd := List.drop_eq_getElem_cons hi
  by_cases c : s = l[i]
  · refine Ev.step (f := fun _ => some true) (fun k => ?_) ?_
    · simp only [slices_Index_string_string.l0]
      rw [if_pos (by omega), if_pos (by omega), if_pos (by omega), hrd, if_pos (congrArg ByteArray.toList c)]
      rw [Option.map_some, decide_eq_true (show (i : Int) ≥ 0 by omega)]
    · have e3 : hasT (l.drop i) s = true := by
       rw [hd]
       simp [hasT, ← c]
      rw [e3]
      exact Ev.now _
  · have hn := ih (i + 1) (by omega) (by omega)
    have e2 : wrap64 ((i : Int) + 1) = ((i + 1 : Nat) : Int) := by
     clear hn hrd hd
     unfold wrap64
     omega
    refine Ev.step (f := fun k => (slices_Index_string_string.l0 k l s (l.length : Int) ((i + 1 : Nat) : Int)).map (fun v => decide (v ≥ 0))) (fun k => ?_) ?_
    · simp only [slices_Index_string_string.l0]
      rw [if_pos (by omega), if_pos (by omega), if_pos (by omega), hrd, if_neg (fun e => c (text_ext e)), e2]
    · have e3 : hasT (l.drop i) s = hasT (l.drop (i + 1)) s := by
       rw [hd]
       show (decide (s = l[i]) || hasT (l.drop (i + 1)) s) = _
       rw [decide_eq_false c, Bool.false_or]
      rw [e3]
      exact hn
theorem contains_s (l : List ByteArray) (s : ByteArray) (hl : l.length ≤ 9223372036854775807) : ∃ k, slices_Contains_string_string.f k l s = some (hasT l s) := by
 obtain ⟨k, hk⟩ := (index_l l s hl l.length 0 (by omega) (by omega)).rounds
 refine ⟨k, ?_⟩
 unfold slices_Contains_string_string.f slices_Index_string_string.f
 rw [List.drop_zero] at hk
 obtain ⟨v, hv, he⟩ := Option.map_eq_some_iff.1 hk
 rw [show ((0 : Nat) : Int) = 0 from rfl] at hv
 rw [hv, Option.bind_some, he]
theorem C_take {α : Type} {k : Kd α} {w : World} {A : Option Addr} {xs : List α} (h : k.C w A xs.length xs) (n : Nat) (hn : n ≤ xs.length) : k.C w A n (xs.take n) :=
 ⟨by rw [List.length_take]; omega, by have := h.2.1; omega, fun h0 => by
  obtain ⟨ad, e, hc⟩ := h.2.2 (by omega)
  refine ⟨ad, e, fun j p hj => hc j p ?_⟩
  obtain ⟨hlt, hv⟩ := List.getElem?_eq_some_iff.1 hj
  rw [List.length_take] at hlt
  rw [List.getElem_take] at hv
  exact List.getElem?_eq_some_iff.2 ⟨by omega, hv⟩⟩
theorem contains_any (A : Option Addr) (l : List ByteArray) (n c : Nat) (s : ByteArray) (w : World) (hC : Kd.string.C w A n l) (hc : n ≤ c) :
 Calls Tryd.prog 32 #[.slice A n c, .string s] w fun e w' => e = .returned (.bool (hasT l s)) ∧ Below w.heap.size w w' := by
 obtain rfl := hC.1
 obtain ⟨k, hk⟩ := contains_s l s hC.2.1
 exact (slices_Contains_string_string.calls k A c l s _ w hC hc hk).mono fun e w' h => ⟨h.1, h.2.below⟩
def kindAt (T : List Tok) (i : Int) : Int := (rd_T50 T i).f1
def namesS (T : List Tok) (kind : Int) : List ByteArray → List ByteArray → Option Int
 | _, [] => none
 | p, s :: r => if 0 ≤ findS T s 0 ∧ hasT p s = false then (if kindAt T (findS T s 0) = kind then namesS T kind (p ++ [s]) r else some 5) else some 4
theorem findS_lt (T : List Tok) (s : ByteArray) : ∀ (i : Nat), findS T s i = -1 ∨ ((i : Int) ≤ findS T s i ∧ findS T s i < i + T.length) := by
 induction T with
 | nil => exact fun i => .inl rfl
 | cons t T ih =>
  intro i
  show (if t.f0 = s then (i : Int) else findS T s (i + 1)) = -1 ∨ _ ≤ (if t.f0 = s then (i : Int) else findS T s (i + 1)) ∧ (if t.f0 = s then (i : Int) else findS T s (i + 1)) < _
  by_cases c : t.f0 = s
  · rw [if_pos c, List.length_cons]
    exact .inr ⟨by omega, by omega⟩
  · rw [if_neg c, List.length_cons]
    rcases ih (i + 1) with h | h
    · exact .inl h
    · exact .inr ⟨by omega, by omega⟩
set_option maxHeartbeats 2000000 in
set_option maxRecDepth 100000 in
theorem names_any (bc : Nat) (AT : Option Addr) (T : List Tok) (ct : Nat) (AR : Option Addr) (R : List Rul) (cr : Nat) (wh : Int) (Al : Option Addr) (l : List ByteArray) (cl : Nat) (kind : Int) (W : World) (hc : CourtAt bc AT T ct AR R cr wh W) (hT : kTok.C W AT T.length T) (hl : Kd.string.C W Al l.length l) (hcl : l.length ≤ cl) :
 Calls Tryd.prog 45 #[.pointer (some ⟨bc, 0, none⟩), .slice Al l.length cl, .int .i64 kind] W (CourtPost wh (namesS T kind [] l) W) := by
 have hlen : l.length ≤ 9223372036854775807 := hl.2.1
 have HC := Aside0.mk hc
 have HT := Aside0.mk hT
 have HL := Aside0.mk hl
 obtain ⟨res, hres⟩ : ∃ res, namesS T kind [] l = res := ⟨_, rfl⟩
 have HR := Aside0.mk hres
 rw [hres]
 clear hc hT hl hres
 go_enter Tryd.func45, Tryd.ntmps45
 go_wp2
 go_loopw [11] (fun i w' => ∃ k : Nat, i = .int .i64 k ∧ k ≤ l.length ∧ Aside0 (namesS T kind (l.take k) (l.drop k) = res) ∧ Aside0 (Below W.heap.size W w')) (fun i _ => l.length - (intOf i).toNat)
 case atStart => exact ⟨0, rfl, Nat.zero_le _, HR, ⟨Below.refl _ _⟩⟩
 case round =>
  obtain ⟨k, rfl, hkl, HI, HB⟩ := hrel
  by_cases hlt : k < l.length
  · obtain ⟨g, o, rfl, _, hcell⟩ := row_cells HL.out (by omega) (by decide)
    obtain ⟨s, hs⟩ : ∃ s, l[k]? = some s := ⟨_, List.getElem?_eq_getElem hlt⟩
    obtain ⟨cs, hcs, hK, hcc⟩ := hcell k s hs
    obtain rfl : cs = [.string s] := hK
    have y0 := cell_after HB.out (hcc 0 (.string s) rfl)
    rw [Nat.add_zero, show (Kd.string).sz = 1 from rfl, Nat.mul_one] at y0
    have b0 := cell_after HB.out (show W.cell? ⟨bc, 0, none⟩ = some (.slice AT T.length ct) from (blk_cell HC.out 0).trans rfl)
    have b1 := cell_after HB.out (show W.cell? ⟨bc, 1, none⟩ = some (.slice AR R.length cr) from (blk_cell HC.out 1).trans rfl)
    have HS := Aside0.mk hs
    have hdk : l.drop k = s :: l.drop (k + 1) := by
     rw [List.drop_eq_getElem_cons hlt]
     rw [List.getElem?_eq_getElem hlt] at hs
     rw [Option.some.inj hs]
    have htk : l.take (k + 1) = l.take k ++ [s] := by rw [List.take_add_one, hs]; rfl
    have hI2 := HI.out
    rw [hdk, namesS] at hI2
    have HI2 := Aside0.mk hI2
    have HTK := Aside0.mk htk
    have hf := findS_lt T s 0
    clear hcell hcc hs hdk htk hI2 HI hcs
    go_wp2_with fail
    refine (find_any T AT AR ct cr R.length s _ (Kd.C_below HT.out HB.out)).mono ?_
    rintro e w2 ⟨rfl, hb⟩
    have HB2 := Aside0.mk (join_below HB.out hb)
    have b2 := cell_after hb b0
    have HC2 := Aside0.mk (CourtAt.later HC.out HB2.out)
    clear b0 b1 y0 hb
    generalize findS T s 0 = f at *
    by_cases c1 : 0 ≤ f
    · have hfl : f < T.length := by omega
      obtain ⟨fn, rfl⟩ : ∃ n : Nat, f = n := ⟨f.toNat, by omega⟩
      have hTl : 0 < T.length := by omega
      have hfn : fn < T.length := by omega
      obtain ⟨g2, o2, rfl, _, hcellT⟩ := row_cells HT.out hTl (by decide)
      obtain ⟨t, ht⟩ : ∃ t, T[fn]? = some t := ⟨_, List.getElem?_eq_getElem hfn⟩
      obtain ⟨ct2, _, hK2, hcc2⟩ := hcellT fn t ht
      obtain ⟨A4, c4, A5, c5, rfl, _, _, _, _⟩ := k50_open hK2
      have yk := hcc2 1 (.int .i64 t.f1) rfl
      rw [show kTok.sz = 6 from rfl] at yk
      have HYK := Aside0.mk yk
      have hkd : kindAt T (fn : Int) = t.f1 := by
       unfold kindAt rd_T50
       rw [Int.toNat_natCast, List.getD_eq_getElem?_getD, ht]
       rfl
      have HKD := Aside0.mk hkd
      have hfl2 : (fn : Int) < (T.length : Int) := by omega
      clear hf hcellT ht hK2 hcc2 yk hkd hTl
      go_wp2_with fail
      refine (contains_any _ (l.take k) k cl s _ (C_take (Kd.C_below HL.out HB2.out) k hkl) (by omega)).mono ?_
      rintro e w3 ⟨rfl, hb⟩
      have HB3 := Aside0.mk (join_below HB2.out hb)
      have b3 := cell_after hb b2
      have HC3 := Aside0.mk (CourtAt.later HC.out HB3.out)
      clear b2 hb
      obtain ⟨bh, hbh⟩ : ∃ b, hasT (l.take k) s = b := ⟨_, rfl⟩
      have HBH := Aside0.mk hbh
      rw [hbh]
      clear hbh
      cases bh
      · go_wp2_with fail
        refine (must_yes 4 HC3.out).mono ?_
        rintro e w4 ⟨rfl, hb⟩
        have HB4 := Aside0.mk (join_below HB3.out hb)
        have b4 := cell_after hb b3
        have HC4 := Aside0.mk (CourtAt.later HC.out HB4.out)
        have yk := cell_after HB4.out HYK.out
        clear b3 hb
        by_cases c3 : t.f1 = kind
        · have d3 : (t.f1 == kind) = true := beq_iff_eq.2 c3
          have HN : Aside0 (namesS T kind (l.take (k + 1)) (l.drop (k + 1)) = res) := ⟨by rw [HTK.out, ← HI2.out, if_pos ⟨c1, HBH.out⟩, HKD.out, if_pos c3]⟩
          clear c3
          go_wp2_with fail
          refine (must_yes 5 HC4.out).mono ?_
          rintro e w5 ⟨rfl, hb⟩
          have HB5 := Aside0.mk (join_below HB4.out hb)
          clear hb b4 yk
          go_wp2
          go_roundw
          case rel => exact ⟨k + 1, by go_num, by omega, HN, HB5⟩
          case measure => simp [intOf]; omega
        · have d3 : (t.f1 == kind) = false := beq_eq_false_iff_ne.2 c3
          have HE : Aside0 (res = some 5) := ⟨by rw [← HI2.out, if_pos ⟨c1, HBH.out⟩, HKD.out, if_neg c3]⟩
          clear c3
          go_wp2_with fail
          refine (must_no 5 HC4.out).mono ?_
          rintro e w5 ⟨rfl, hb⟩
          have HB5 := Aside0.mk (join_below HB4.out hb)
          clear hb b4 yk
          go_wp2
          exact ⟨rfl, by rw [HE.out]; exact CourtPost.bad HB5.out⟩
      · have HE : Aside0 (res = some 4) := ⟨by rw [← HI2.out, if_neg (fun h => by rw [HBH.out] at h; cases h.2)]⟩
        go_wp2_with fail
        refine (must_no 4 HC3.out).mono ?_
        rintro e w4 ⟨rfl, hb⟩
        have HB4 := Aside0.mk (join_below HB3.out hb)
        clear hb b3
        go_wp2
        exact ⟨rfl, by rw [HE.out]; exact CourtPost.bad HB4.out⟩
    · have d1 : decide (0 ≤ f) = false := decide_eq_false c1
      have HE : Aside0 (res = some 4) := ⟨by rw [← HI2.out, if_neg (fun h => c1 h.1)]⟩
      clear c1 hf
      go_wp2_with fail
      refine (must_no 4 HC2.out).mono ?_
      rintro e w3 ⟨rfl, hb⟩
      have HB3 := Aside0.mk (join_below HB2.out hb)
      clear hb b2
      go_wp2
      exact ⟨rfl, by rw [HE.out]; exact CourtPost.bad HB3.out⟩
  · have e : k = l.length := by omega
    have HI2 : Aside0 (res = none) := ⟨by rw [← HI.out, e, List.drop_length]; rfl⟩
    clear e
    go_wp2
    first | go_end0 | refine bodyPost_ret (results_none rfl _ _ _) rfl ?_
    rw [HI2.out]
    exact CourtPost.ok HB.out
end Go.Proofs.YthdfmbmbjpmlaaaDoor.Rn
end
section
set_option linter.unusedVariables false
set_option linter.unusedSimpArgs false
namespace Go.Proofs.YthdfmbmbjpmlaaaDoor.Rn
open Go Go.RowKit Go.Proofs.YthdfmbmbjpmlaaaDoorW.PrintWords Go.Proofs.YthdfmbmbjpmlaaaDoorW.PrintLast Go.Proofs.YthdfmbmbjpmlaaaDoorW.PrintMore
abbrev Re := S48
abbrev kRe := k48
set_option maxHeartbeats 1000000 in
set_option maxRecDepth 100000 in
theorem within_index (xs : List S48) (A : Option Addr) (c : Nat) (bg bd : Nat) (I J : Nat → World → Prop) (w0 w : World) (hC : k48.C w0 A xs.length xs) (hB : ∀ i W, I i W → Below w0.heap.size w0 W)
 (hstep : ∀ i x cs W, xs[i]? = some x → I i W → k48.K w0 x cs → Calls Tryd.prog 59 #[.agg cs.toArray, .pointer (some ⟨bg, 0, none⟩), .pointer (some ⟨bd, 0, none⟩)] W (CbPost (J i) (I (i + 1)))) (h0 : I 0 w) :
 Calls Tryd.prog 66 #[.slice A xs.length c, .func (.func 59) #[] #[.pointer (some ⟨bg, 0, none⟩), .pointer (some ⟨bd, 0, none⟩)]] w (IdxPost xs.length I J) := by
 have hl : xs.length ≤ 9223372036854775807 := hC.2.1
 have HC := Aside0.mk hC
 have HB := Aside0.mk hB
 have HS := Aside0.mk hstep
 have H0 := Aside0.mk h0
 clear hC hB hstep h0
 go_enter Tryd.func66, Tryd.ntmps66
 go_wp2
 go_loopw [8] (fun i W => ∃ k : Nat, i = .int .i64 k ∧ k ≤ xs.length ∧ Aside0 (I k W)) (fun i _ => xs.length - (intOf i).toNat)
 case atStart => exact ⟨0, rfl, Nat.zero_le _, H0⟩
 case round =>
  obtain ⟨k, rfl, hkl, HI⟩ := hrel
  by_cases hlt : k < xs.length
  · obtain ⟨g, o, rfl, _, hcell⟩ := row_cells HC.out (by omega) (by decide)
    obtain ⟨x, hx⟩ : ∃ x, xs[k]? = some x := ⟨_, List.getElem?_eq_getElem hlt⟩
    obtain ⟨cs, hcl, hK, hcc⟩ := hcell k x hx
    have HK := Aside0.mk hK
    obtain ⟨A1, c1, A2, c2, rfl, l1, g1, l2, g2⟩ := k48_open hK
    have y0 := cell_after (HB.out k _ HI.out) (hcc 0 (.int .i64 x.f0) rfl)
    rw [Nat.add_zero] at y0
    have y1 := cell_after (HB.out k _ HI.out) (hcc 1 (.slice A1 x.f1.length c1) rfl)
    have y2 := cell_after (HB.out k _ HI.out) (hcc 2 (.slice A2 x.f2.length c2) rfl)
    simp only [show k48.sz = 3 from rfl] at y0 y1 y2
    have HX := Aside0.mk hx
    clear hcell hcc hx hK hcl
    go_wp2_with fail
    refine (HS.out k x _ _ HX.out HI.out HK.out).mono ?_
    rintro e w2 hp
    rcases hp with ⟨rfl, hj⟩ | ⟨rfl, hi⟩
    · have HJ := Aside0.mk hj
      clear hj
      go_wp2
      go_ret
      exact Or.inl ⟨k, hlt, rfl, HJ.out⟩
    · have HI2 := Aside0.mk hi
      clear hi
      go_wp2
      go_roundw
      case rel => exact ⟨k + 1, by go_num, by omega, HI2⟩
      case measure => simp [intOf]; omega
  · obtain ⟨n, hn⟩ : ∃ n, xs.length = n := ⟨_, rfl⟩
    have e : k = xs.length := by omega
    have HI2 : Aside0 (I xs.length _) := ⟨e ▸ HI.out⟩
    clear e hn n
    go_wp2
    go_ret
    exact Or.inr ⟨rfl, HI2.out⟩
set_option maxHeartbeats 1000000 in
theorem within_contains (xs : List S48) (A : Option Addr) (c : Nat) (bg bd : Nat) (I J : Nat → World → Prop) (w0 w : World) (hC : k48.C w0 A xs.length xs) (hB : ∀ i W, I i W → Below w0.heap.size w0 W)
 (hstep : ∀ i x cs W, xs[i]? = some x → I i W → k48.K w0 x cs → Calls Tryd.prog 59 #[.agg cs.toArray, .pointer (some ⟨bg, 0, none⟩), .pointer (some ⟨bd, 0, none⟩)] W (CbPost (J i) (I (i + 1)))) (h0 : I 0 w) :
 Calls Tryd.prog 58 #[.slice A xs.length c, .func (.func 59) #[] #[.pointer (some ⟨bg, 0, none⟩), .pointer (some ⟨bd, 0, none⟩)]] w (ConPost xs.length I J) := by
 have hl : xs.length ≤ 9223372036854775807 := hC.2.1
 have HC := Aside0.mk hC
 have HB := Aside0.mk hB
 have HS := Aside0.mk hstep
 have H0 := Aside0.mk h0
 clear hC hB hstep h0
 go_enter Tryd.func58, Tryd.ntmps58
 go_wp2_with fail
 refine (within_index xs A c bg bd I J w0 _ HC.out HB.out HS.out H0.out).mono ?_
 rintro e w2 hp
 rcases hp with ⟨i, hi, rfl, hj⟩ | ⟨rfl, hi⟩
 · have HJ := Aside0.mk hj
   have h0 : (0 : Int) ≤ (i : Int) := by omega
   clear hj
   go_wp2
   go_ret
   exact Or.inl ⟨rfl, i, hi, HJ.out⟩
 · have HI := Aside0.mk hi
   clear hi
   go_wp2
   go_ret
   exact Or.inr ⟨rfl, HI.out⟩
mutual
/-- few nodes, not deep: is it so, and how many are left -/
def wtR : Re → Int → Int → Bool × Int
 | ⟨_, _, l⟩, deep, n => if 0 ≤ n - 1 ∧ deep ≤ 12 then wtL l (deep + 1) (n - 1) else (false, n - 1)
def wtL : List Re → Int → Int → Bool × Int
 | [], _, n => (true, n)
 | x :: l, deep, n => if (wtR x deep n).1 = true then wtL l deep (wtR x deep n).2 else (false, (wtR x deep n).2)
end
theorem wtL_yes {x : Re} {l : List Re} {deep n : Int} (h : (wtR x deep n).1 = true) : wtL (x :: l) deep n = wtL l deep (wtR x deep n).2 := by
 simp only [wtL]
 rw [if_pos h]
theorem wtL_no {x : Re} {l : List Re} {deep n : Int} (h : ¬ (wtR x deep n).1 = true) : wtL (x :: l) deep n = (false, (wtR x deep n).2) := by
 simp only [wtL]
 rw [if_neg h]
theorem wtL_append (b : List Re) : ∀ (a : List Re) (deep n : Int), wtL (a ++ b) deep n = if (wtL a deep n).1 = true then wtL b deep (wtL a deep n).2 else wtL a deep n
 | [], deep, n => by
  simp only [List.nil_append, wtL, if_true]
 | x :: a, deep, n => by
  by_cases h : (wtR x deep n).1 = true
  · rw [List.cons_append, wtL_yes h, wtL_yes h]
    exact wtL_append b a deep _
  · rw [List.cons_append, wtL_no h, wtL_no h]
    rfl
theorem wtL_snoc {l : List Re} {k : Nat} {x : Re} (hx : l[k]? = some x) {deep n m : Int} (h : wtL (l.take k) deep n = (true, m)) : wtL (l.take (k + 1)) deep n = wtR x deep m := by
 rw [List.take_add_one, hx, wtL_append, h]
 simp only [if_true, Option.toList_some, wtL]
 by_cases c : (wtR x deep m).1 = true
 · rw [if_pos c]
   exact Prod.ext c.symm rfl
 · rw [if_neg c]
   exact Prod.ext (by simpa using c) rfl
theorem wtL_front {l : List Re} {k : Nat} {deep n m : Int} (h : wtL (l.take k) deep n = (false, m)) : wtL l deep n = (false, m) := by
 have e := wtL_append (l.drop k) (l.take k) deep n
 rw [List.take_append_drop, h] at e
 simpa using e
mutual
theorem wtR_bd : ∀ (x : Re) (deep n : Int), 0 ≤ n → -1 ≤ (wtR x deep n).2 ∧ (wtR x deep n).2 ≤ n ∧ ((wtR x deep n).1 = true → 0 ≤ (wtR x deep n).2)
 | ⟨_, _, l⟩, deep, n, h => by
  unfold wtR
  by_cases c : 0 ≤ n - 1 ∧ deep ≤ 12
  · rw [if_pos c]
    have := wtL_bd l (deep + 1) (n - 1) c.1
    exact ⟨this.1, by omega, this.2.2⟩
  · rw [if_neg c]
    exact ⟨by show -1 ≤ n - 1; omega, by show n - 1 ≤ n; omega, fun e => by cases e⟩
theorem wtL_bd : ∀ (l : List Re) (deep n : Int), 0 ≤ n → -1 ≤ (wtL l deep n).2 ∧ (wtL l deep n).2 ≤ n ∧ ((wtL l deep n).1 = true → 0 ≤ (wtL l deep n).2)
 | [], deep, n, h => ⟨by show -1 ≤ n; omega, Int.le_refl _, fun _ => h⟩
 | x :: l, deep, n, h => by
  have hx := wtR_bd x deep n h
  simp only [wtL]
  by_cases c : (wtR x deep n).1 = true
  · rw [if_pos c]
    have := wtL_bd l deep (wtR x deep n).2 (hx.2.2 c)
    exact ⟨this.1, by omega, this.2.2⟩
  · rw [if_neg c]
    exact ⟨hx.1, hx.2.1, fun e => by cases e⟩
end
def fnW (bl bg : Nat) : Value := .func (.func 57) #[] #[.pointer (some ⟨bl, 0, none⟩), .pointer (some ⟨bg, 0, none⟩)]
def StW (w0 : World) (bl bg : Nat) (n : Int) (W : World) : Prop := Below w0.heap.size w0 W ∧ W.heap[bl]? = some (.cells #[.int .i64 n] 3 (0, 0)) ∧ W.cell? ⟨bg, 0, none⟩ = some (fnW bl bg)
def GoPost (b : Bool) (n : Int) (bl : Nat) (W : World) (e : Ending) (W' : World) : Prop := e = .returned (.bool b) ∧ W.grownBy W' (some bl) ∧ W'.heap[bl]? = some (.cells #[.int .i64 n] 3 (0, 0))
def GoW (x : Re) : Prop := ∀ (w0 W : World) (bl bg : Nat) (cs : List Value) (deep n : Int), w0.heap.size ≤ bl → w0.heap.size ≤ bg → bl ≠ bg → 0 ≤ n → n ≤ 60 → 1 ≤ deep → deep ≤ 13 → kRe.K w0 x cs → StW w0 bl bg n W →
 Calls Tryd.prog 57 #[.agg cs.toArray, .int .i64 deep, .pointer (some ⟨bl, 0, none⟩), .pointer (some ⟨bg, 0, none⟩)] W (GoPost (wtR x deep n).1 (wtR x deep n).2 bl W)
theorem StW.grown {w0 W W' : World} {bl bg : Nat} {n m : Int} (h : StW w0 bl bg n W) (hl : w0.heap.size ≤ bl) (hne : bl ≠ bg) (hg : W.grownBy W' (some bl)) (hc : W'.heap[bl]? = some (.cells #[.int .i64 m] 3 (0, 0))) : StW w0 bl bg m W' :=
 ⟨Below.grown h.1 hg h.1.size (fun k hk => by obtain rfl := Option.some.inj hk; exact hl), hc, grown_cell hg h.2.2 (fun e => hne e.symm)⟩
def NoPost (b : Bool) (n : Int) (bl : Nat) (W : World) (e : Ending) (W' : World) : Prop := e = .returned (.bool (!b)) ∧ W.grownBy W' (some bl) ∧ W'.heap[bl]? = some (.cells #[.int .i64 n] 3 (0, 0))
set_option maxHeartbeats 1000000 in
set_option maxRecDepth 100000 in
theorem within_part {x : Re} (hx : GoW x) (w0 W : World) (bl bg bd : Nat) (cs : List Value) (deep n : Int) (h1 : w0.heap.size ≤ bl) (h2 : w0.heap.size ≤ bg) (h3 : bl ≠ bg) (h4 : 0 ≤ n) (h5 : n ≤ 60) (h6 : 1 ≤ deep) (h7 : deep ≤ 12) (hK : kRe.K w0 x cs) (hS : StW w0 bl bg n W) (hd : W.cell? ⟨bd, 0, none⟩ = some (.int .i64 deep)) :
 Calls Tryd.prog 59 #[.agg cs.toArray, .pointer (some ⟨bg, 0, none⟩), .pointer (some ⟨bd, 0, none⟩)] W (NoPost (wtR x (deep + 1) n).1 (wtR x (deep + 1) n).2 bl W) := by
 have HX := Aside0.mk hx
 have HK := Aside0.mk hK
 obtain ⟨A1, c1, A2, c2, rfl, _, _, _, _⟩ := k48_open hK
 obtain ⟨s1, s2, s3⟩ := hS
 have n1 : bl < W.heap.size := blk_lt s2
 have n2 : bg < W.heap.size := blk_lt' s3
 have n3 : bd < W.heap.size := blk_lt' hd
 have m1 : bg ≠ W.heap.size := by omega
 have m2 : bd ≠ W.heap.size := by omega
 have HS : Aside0 (∀ o, StW w0 bl bg n (W.alloc o)) := ⟨fun o => StW.grown ⟨s1, s2, s3⟩ h1 h3 (World.grownBy_alloc W o _) (blk_alloc s2 o)⟩
 have HG : Aside0 (∀ o, W.grownBy (W.alloc o) (some bl)) := ⟨fun o => World.grownBy_alloc W o _⟩
 unfold fnW at s3
 have y3 : ∀ o, (W.alloc o).cell? ⟨bg, 0, none⟩ = some (.func (.func 57) #[] #[.pointer (some ⟨bl, 0, none⟩), .pointer (some ⟨bg, 0, none⟩)]) := fun o => ((below1 W o).cell (p := ⟨bg, 0, none⟩) n2).trans s3
 have yd : ∀ o, (W.alloc o).cell? ⟨bd, 0, none⟩ = some (.int .i64 deep) := fun o => ((below1 W o).cell (p := ⟨bd, 0, none⟩) n3).trans hd
 have HP : Aside0 (1 ≤ deep + 1 ∧ deep + 1 ≤ 13) := ⟨by omega⟩
 clear hK hx s1 s2 s3 hd n1 n2 n3
 go_enter Tryd.func59, Tryd.ntmps59
 go_wp2_with fail
 refine (HX.out w0 _ bl bg _ (deep + 1) n h1 h2 h3 h4 h5 HP.out.1 HP.out.2 HK.out (HS.out _)).mono ?_
 rintro e w2 ⟨rfl, hg, hc⟩
 have HGC := Aside0.mk (And.intro ((HG.out _).trans hg) hc)
 clear hg hc
 go_wp2
 go_ret
 exact ⟨rfl, HGC.out.1, HGC.out.2⟩
def PartsI (l : List Re) (deep n : Int) (bl : Nat) (Wb : World) (i : Nat) (W : World) : Prop := Wb.grownBy W (some bl) ∧ ∃ m, wtL (l.take i) deep n = (true, m) ∧ W.heap[bl]? = some (.cells #[.int .i64 m] 3 (0, 0))
def PartsJ (l : List Re) (deep n : Int) (bl : Nat) (Wb W : World) : Prop := Wb.grownBy W (some bl) ∧ ∃ m, wtL l deep n = (false, m) ∧ W.heap[bl]? = some (.cells #[.int .i64 m] 3 (0, 0))
theorem within_parts (x : Re) (hx : ∀ y, y ∈ x.f2 → GoW y) (w0 Wb : World) (bl bg bd : Nat) (A : Option Addr) (c : Nat) (deep n : Int) (h1 : w0.heap.size ≤ bl) (h2 : w0.heap.size ≤ bg) (h3 : bl ≠ bg) (h4 : 0 ≤ n) (h5 : n ≤ 60) (h6 : 1 ≤ deep) (h7 : deep ≤ 12) (hC : kRe.C w0 A x.f2.length x.f2) (hS : StW w0 bl bg n Wb) (hd : Wb.cell? ⟨bd, 0, none⟩ = some (.int .i64 deep)) (hbd : bd ≠ bl) :
 Calls Tryd.prog 58 #[.slice A x.f2.length c, .func (.func 59) #[] #[.pointer (some ⟨bg, 0, none⟩), .pointer (some ⟨bd, 0, none⟩)]] Wb (ConPost x.f2.length (PartsI x.f2 (deep + 1) n bl Wb) (fun _ => PartsJ x.f2 (deep + 1) n bl Wb)) := by
 have hgr : ∀ i W, PartsI x.f2 (deep + 1) n bl Wb i W → ∃ m, wtL (x.f2.take i) (deep + 1) n = (true, m) ∧ 0 ≤ m ∧ m ≤ n ∧ Wb.grownBy W (some bl) ∧ StW w0 bl bg m W := fun i W hI => by
  obtain ⟨hg, m, hm, hc⟩ := hI
  have hbm := wtL_bd (x.f2.take i) (deep + 1) n h4
  rw [hm] at hbm
  exact ⟨m, hm, hbm.2.2 rfl, hbm.2.1, hg, StW.grown hS h1 h3 hg hc⟩
 refine within_contains x.f2 A c bg bd _ _ w0 Wb hC (fun i W hI => (hgr i W hI).elim fun m h => h.2.2.2.2.1) (fun i y cs W hy hI hK => ?_) ⟨World.grownBy.refl _ _, n, rfl, hS.2.1⟩
 obtain ⟨m, hm, hm0, hm1, hg, hSt⟩ := hgr i W hI
 have hs := wtL_snoc hy hm
 refine (within_part (hx y (List.mem_of_getElem? hy)) w0 W bl bg bd cs deep m h1 h2 h3 hm0 (by omega) h6 h7 hK hSt (grown_cell hg hd hbd)).mono ?_
 rintro e W2 ⟨rfl, hg2, hc2⟩
 have hg3 := hg.trans hg2
 cases hb : (wtR y (deep + 1) m).1
 · refine Or.inl ⟨rfl, hg3, (wtR y (deep + 1) m).2, ?_, hc2⟩
   exact wtL_front (hs.trans (Prod.ext hb rfl))
 · exact Or.inr ⟨rfl, hg3, (wtR y (deep + 1) m).2, hs.trans (Prod.ext hb rfl), hc2⟩
theorem go_world {W : World} {bl : Nat} {n : Int} (hb : W.heap[bl]? = some (.cells #[.int .i64 n] 3 (0, 0))) (o1 : Obj) (deep m : Int) :
 W.grownBy (((W.alloc o1).alloc (.cells #[.int .i64 deep] 3)).setCell ⟨bl, 0, none⟩ (.int .i64 m)) (some bl) ∧ (((W.alloc o1).alloc (.cells #[.int .i64 deep] 3)).setCell ⟨bl, 0, none⟩ (.int .i64 m)).heap[bl]? = some (.cells #[.int .i64 m] 3 (0, 0)) ∧
 (((W.alloc o1).alloc (.cells #[.int .i64 deep] 3)).setCell ⟨bl, 0, none⟩ (.int .i64 m)).cell? ⟨W.heap.size + 1, 0, none⟩ = some (.int .i64 deep) := by
 have hlt := blk_lt hb
 have h2 := blk_alloc (blk_alloc hb o1) (.cells #[.int .i64 deep] 3)
 have hnew := blk_new (W.alloc o1) (.cells #[.int .i64 deep] 3)
 have hsz : (W.alloc o1).heap.size = W.heap.size + 1 := by simp
 rw [hsz] at hnew
 refine ⟨(World.grownBy_alloc W o1 _).trans ((World.grownBy_alloc _ _ _).trans (grownBy_setCell' _ bl _)), blk_put h2 0 _ rfl, ?_⟩
 exact (blk_cell (blk_far hnew (show W.heap.size + 1 ≠ bl by omega) _) 0).trans rfl
set_option maxHeartbeats 1000000 in
set_option maxRecDepth 100000 in
theorem within_go (x : Re) (hx : ∀ y, y ∈ x.f2 → GoW y) : GoW x := by
 intro w0 W bl bg cs deep n h1 h2 h3 h4 h5 h6 h7 hK hS
 have HK := Aside0.mk hK
 obtain ⟨A1, p1, A2, p2, rfl, _, _, _, hC2⟩ := k48_open hK
 have HC2 := Aside0.mk hC2
 obtain ⟨s1, s2, s3⟩ := hS
 have n1 : bl < W.heap.size := blk_lt s2
 have n2 : bg < W.heap.size := blk_lt' s3
 have m1 : bl ≠ W.heap.size := by omega
 have m2 : bl ≠ W.heap.size + 1 := by omega
 have HHS := Aside0.mk (show StW w0 bl bg n W from ⟨s1, s2, s3⟩)
 have HHX := Aside0.mk hx
 have HGW := Aside0.mk (go_world s2 (.cells #[.int .i64 x.f0, .slice A1 x.f1.length p1, .slice A2 x.f2.length p2] 48) deep (n - 1))
 have e1 : wtR x deep n = if 0 ≤ n - 1 ∧ deep ≤ 12 then wtL x.f2 (deep + 1) (n - 1) else (false, n - 1) := by
  cases x
  rfl
 have y2 : ∀ o o2, ((W.alloc o).alloc o2).cell? ⟨bl, 0, none⟩ = some (.int .i64 n) := fun o o2 => (blk_cell (blk_alloc (blk_alloc s2 o) o2) 0).trans rfl
 have z2 : ∀ o o2, ((W.alloc o).alloc o2).frozen? ⟨bl, 0, none⟩ = false := fun o o2 => blk_frozen (blk_alloc (blk_alloc s2 o) o2) 0
 clear hK hx s1 s2 s3 n1 n2 hC2
 by_cases c1 : 0 ≤ n - 1
 · by_cases c2 : deep ≤ 12
   · rw [if_pos ⟨c1, c2⟩] at e1
     rw [e1]
     clear e1
     have HD : Aside0 (W.heap.size + 1 ≠ bl) := ⟨fun e => m2 e.symm⟩
     go_enter Tryd.func57, Tryd.ntmps57
     go_wp2_with fail
     refine (within_parts x HHX.out w0 _ bl bg (W.heap.size + 1) A2 p2 deep (n - 1) h1 h2 h3 c1 (by omega) h6 c2 HC2.out (StW.grown HHS.out h1 h3 HGW.out.1 HGW.out.2.1) HGW.out.2.2 HD.out).mono ?_
     rintro e w2 hp
     rcases hp with ⟨rfl, _, _, hg, m, hm, hc⟩ | ⟨rfl, hg, m, hm, hc⟩
     · have HP := Aside0.mk (And.intro (HGW.out.1.trans hg) (And.intro hm hc))
       clear hg hm hc
       go_wp2
       go_ret
       rw [HP.out.2.1]
       exact ⟨rfl, HP.out.1, HP.out.2.2⟩
     · rw [List.take_length] at hm
       have HP := Aside0.mk (And.intro (HGW.out.1.trans hg) (And.intro hm hc))
       clear hg hm hc
       go_wp2
       go_ret
       rw [HP.out.2.1]
       exact ⟨rfl, HP.out.1, HP.out.2.2⟩
   · rw [if_neg (fun h => c2 h.2)] at e1
     rw [e1]
     have hd : decide (deep ≤ 12) = false := decide_eq_false c2
     clear e1
     go_enter Tryd.func57, Tryd.ntmps57
     go_wp2
     go_ret
     exact ⟨rfl, HGW.out.1, HGW.out.2.1⟩
 · rw [if_neg (fun h => c1 h.1)] at e1
   rw [e1]
   have hd : decide (0 ≤ n - 1) = false := decide_eq_false c1
   have hd2 : decide (1 ≤ n) = false := decide_eq_false (by omega)
   clear e1
   go_enter Tryd.func57, Tryd.ntmps57
   go_wp2
   go_ret
   exact ⟨rfl, HGW.out.1, HGW.out.2.1⟩
theorem go_all : ∀ (N : Nat) (x : Re), SizeOf.sizeOf x < N → GoW x
 | 0, x, h => absurd h (Nat.not_lt_zero _)
 | N + 1, x, h => within_go x (fun y hy => go_all N y (by
     have h1 := List.sizeOf_lt_of_mem hy
     have h2 : SizeOf.sizeOf x.f2 < SizeOf.sizeOf x := by
      cases x
      simp
      omega
     omega))
def regex_within.f (a0 : Int) (l1 : List Rg) (l2 : List Re) : Option Bool := some (wtR ⟨a0, l1, l2⟩ 1 60).1
theorem run_store_func {P : Program} {w : World} {a : Addr} {m : Mode} (f : Fn) (ts bs : Array Value) : (store a (.func f ts bs) m).run P w = stored P w a (.func f ts bs) m := run_store P w a _ m rfl
attribute [local go_sem] run_store_func
theorem third (w : World) (o1 o2 : Obj) (cs : Array Value) (t : TypeId) : (((w.alloc o1).alloc o2).alloc (.cells cs t)).heap[w.heap.size + 1 + 1]? = some (.cells cs t (0, 0)) := by
 have h := blk_new ((w.alloc o1).alloc o2) (.cells cs t)
 simpa using h
theorem second (w : World) (o1 : Obj) (cs : Array Value) (t : TypeId) : ((w.alloc o1).alloc (.cells cs t)).heap[w.heap.size + 1]? = some (.cells cs t (0, 0)) := by
 have h := blk_new (w.alloc o1) (.cells cs t)
 simpa using h
theorem start_world (w : World) (o1 : Obj) :
 Below w.heap.size w (((w.alloc o1).alloc (.cells #[.int .i64 60] 3)).alloc (.cells #[fnW (w.heap.size + 1) (w.heap.size + 1 + 1)] 94)) ∧
 StW w (w.heap.size + 1) (w.heap.size + 1 + 1) 60 (((w.alloc o1).alloc (.cells #[.int .i64 60] 3)).alloc (.cells #[fnW (w.heap.size + 1) (w.heap.size + 1 + 1)] 94)) := by
 have h3 := third w o1 (.cells #[.int .i64 60] 3) #[fnW (w.heap.size + 1) (w.heap.size + 1 + 1)] 94
 have h2 := blk_alloc (second w o1 #[.int .i64 60] 3) (.cells #[fnW (w.heap.size + 1) (w.heap.size + 1 + 1)] 94)
 have hB := below_alloc (below_alloc (below1 w o1) (.cells #[.int .i64 60] 3)) (.cells #[fnW (w.heap.size + 1) (w.heap.size + 1 + 1)] 94)
 exact ⟨hB, hB, h2, (blk_cell h3 0).trans rfl⟩
set_option maxHeartbeats 1000000 in
set_option maxRecDepth 100000 in
theorem regex_within.calls (a0_0 : Int) (A0_1 : Option Addr) (c0_1 : Nat) (l0_1 : List Rg) (A0_2 : Option Addr) (c0_2 : Nat) (l0_2 : List Re) (r : Bool) (w : World) (hr0_1 : Kd.C k56 w A0_1 l0_1.length l0_1) (hc0_1 : l0_1.length ≤ c0_1) (hr0_2 : Kd.C k48 w A0_2 l0_2.length l0_2) (hc0_2 : l0_2.length ≤ c0_2) (h : regex_within.f a0_0 l0_1 l0_2 = some r) :
 Calls Tryd.prog 52 #[.agg #[.int .i64 a0_0, .slice A0_1 l0_1.length c0_1, .slice A0_2 l0_2.length c0_2]] w fun e w' => e = .returned (.bool r) ∧ Below w.heap.size w w' := by
 obtain rfl := Option.some.inj h
 clear h
 have hK : kRe.K w ⟨a0_0, l0_1, l0_2⟩ [.int .i64 a0_0, .slice A0_1 l0_1.length c0_1, .slice A0_2 l0_2.length c0_2] := k48_mk w ⟨a0_0, l0_1, l0_2⟩ hc0_1 hr0_1 hc0_2 hr0_2
 have HK := Aside0.mk hK
 have HG := Aside0.mk (go_all (SizeOf.sizeOf (⟨a0_0, l0_1, l0_2⟩ : Re) + 1) ⟨a0_0, l0_1, l0_2⟩ (Nat.lt_succ_self _))
 have HW := Aside0.mk (start_world w (.cells #[.int .i64 a0_0, .slice A0_1 l0_1.length c0_1, .slice A0_2 l0_2.length c0_2] 48))
 clear hK hr0_1 hr0_2 hc0_1 hc0_2
 go_enter Tryd.func52, Tryd.ntmps52
 go_wp2_with fail
 refine (HG.out w _ (w.heap.size + 1) (w.heap.size + 1 + 1) _ 1 60 (by omega) (by omega) (by omega) (by decide) (by decide) (by decide) (by decide) HK.out HW.out.2).mono ?_
 rintro e w2 ⟨rfl, hg, hc⟩
 have HB := Aside0.mk (Below.grown HW.out.1 hg HW.out.1.size (fun k hk => by obtain rfl := Option.some.inj hk; omega))
 clear hg hc
 go_wp2
 go_ret
 exact ⟨rfl, HB.out⟩
end Go.Proofs.YthdfmbmbjpmlaaaDoor.Rn
end
section
set_option linter.unusedVariables false
set_option linter.unusedSimpArgs false
namespace Go.Proofs.YthdfmbmbjpmlaaaDoor.Rn
open Go Go.RowKit Go.Proofs.YthdfmbmbjpmlaaaDoorW.PrintWords Go.Proofs.YthdfmbmbjpmlaaaDoorW.PrintLast Go.Proofs.YthdfmbmbjpmlaaaDoorW.PrintMore
abbrev Pt := S37
abbrev kPt := k37
set_option maxHeartbeats 1000000 in
set_option maxRecDepth 100000 in
theorem few_index (xs : List S37) (A : Option Addr) (c : Nat) (bg bd : Nat) (I J : Nat → World → Prop) (w0 w : World) (hC : k37.C w0 A xs.length xs) (hB : ∀ i W, I i W → Below w0.heap.size w0 W)
 (hstep : ∀ i x cs W, xs[i]? = some x → I i W → k37.K w0 x cs → Calls Tryd.prog 64 #[.agg cs.toArray, .pointer (some ⟨bg, 0, none⟩), .pointer (some ⟨bd, 0, none⟩)] W (CbPost (J i) (I (i + 1)))) (h0 : I 0 w) :
 Calls Tryd.prog 40 #[.slice A xs.length c, .func (.func 64) #[] #[.pointer (some ⟨bg, 0, none⟩), .pointer (some ⟨bd, 0, none⟩)]] w (IdxPost xs.length I J) := by
 have hl : xs.length ≤ 9223372036854775807 := hC.2.1
 have HC := Aside0.mk hC
 have HB := Aside0.mk hB
 have HS := Aside0.mk hstep
 have H0 := Aside0.mk h0
 clear hC hB hstep h0
 go_enter Tryd.func40, Tryd.ntmps40
 go_wp2
 go_loopw [8] (fun i W => ∃ k : Nat, i = .int .i64 k ∧ k ≤ xs.length ∧ Aside0 (I k W)) (fun i _ => xs.length - (intOf i).toNat)
 case atStart => exact ⟨0, rfl, Nat.zero_le _, H0⟩
 case round =>
  obtain ⟨k, rfl, hkl, HI⟩ := hrel
  by_cases hlt : k < xs.length
  · obtain ⟨g, o, rfl, _, hcell⟩ := row_cells HC.out (by omega) (by decide)
    obtain ⟨x, hx⟩ : ∃ x, xs[k]? = some x := ⟨_, List.getElem?_eq_getElem hlt⟩
    obtain ⟨cs, hcl, hK, hcc⟩ := hcell k x hx
    have HK := Aside0.mk hK
    obtain ⟨A1, c1, A2, c2, A3, c3, rfl, l1, g1, l2, g2, l3, g3⟩ := k37_open hK
    have y0 := cell_after (HB.out k _ HI.out) (hcc 0 (.int .i64 x.f0) rfl)
    rw [Nat.add_zero] at y0
    have y1 := cell_after (HB.out k _ HI.out) (hcc 1 (.slice A1 x.f1.length c1) rfl)
    have y2 := cell_after (HB.out k _ HI.out) (hcc 2 (.slice A2 x.f2.length c2) rfl)
    have y3 := cell_after (HB.out k _ HI.out) (hcc 3 (.slice A3 x.f3.length c3) rfl)
    simp only [show k37.sz = 4 from rfl] at y0 y1 y2 y3
    have HX := Aside0.mk hx
    clear hcell hcc hx hK hcl
    go_wp2_with fail
    refine (HS.out k x _ _ HX.out HI.out HK.out).mono ?_
    rintro e w2 hp
    rcases hp with ⟨rfl, hj⟩ | ⟨rfl, hi⟩
    · have HJ := Aside0.mk hj
      clear hj
      go_wp2
      go_ret
      exact Or.inl ⟨k, hlt, rfl, HJ.out⟩
    · have HI2 := Aside0.mk hi
      clear hi
      go_wp2
      go_roundw
      case rel => exact ⟨k + 1, by go_num, by omega, HI2⟩
      case measure => simp [intOf]; omega
  · obtain ⟨n, hn⟩ : ∃ n, xs.length = n := ⟨_, rfl⟩
    have e : k = xs.length := by omega
    have HI2 : Aside0 (I xs.length _) := ⟨e ▸ HI.out⟩
    clear e hn n
    go_wp2
    go_ret
    exact Or.inr ⟨rfl, HI2.out⟩
set_option maxHeartbeats 1000000 in
theorem few_contains (xs : List S37) (A : Option Addr) (c : Nat) (bg bd : Nat) (I J : Nat → World → Prop) (w0 w : World) (hC : k37.C w0 A xs.length xs) (hB : ∀ i W, I i W → Below w0.heap.size w0 W)
 (hstep : ∀ i x cs W, xs[i]? = some x → I i W → k37.K w0 x cs → Calls Tryd.prog 64 #[.agg cs.toArray, .pointer (some ⟨bg, 0, none⟩), .pointer (some ⟨bd, 0, none⟩)] W (CbPost (J i) (I (i + 1)))) (h0 : I 0 w) :
 Calls Tryd.prog 22 #[.slice A xs.length c, .func (.func 64) #[] #[.pointer (some ⟨bg, 0, none⟩), .pointer (some ⟨bd, 0, none⟩)]] w (ConPost xs.length I J) := by
 have hl : xs.length ≤ 9223372036854775807 := hC.2.1
 have HC := Aside0.mk hC
 have HB := Aside0.mk hB
 have HS := Aside0.mk hstep
 have H0 := Aside0.mk h0
 clear hC hB hstep h0
 go_enter Tryd.func22, Tryd.ntmps22
 go_wp2_with fail
 refine (few_index xs A c bg bd I J w0 _ HC.out HB.out HS.out H0.out).mono ?_
 rintro e w2 hp
 rcases hp with ⟨i, hi, rfl, hj⟩ | ⟨rfl, hi⟩
 · have HJ := Aside0.mk hj
   have h0 : (0 : Int) ≤ (i : Int) := by omega
   clear hj
   go_wp2
   go_ret
   exact Or.inl ⟨rfl, i, hi, HJ.out⟩
 · have HI := Aside0.mk hi
   clear hi
   go_wp2
   go_ret
   exact Or.inr ⟨rfl, HI.out⟩
mutual
/-- few nodes, not deep: is it so, and how many are left -/
def fwR : Pt → Int → Int → Bool × Int
 | ⟨_, _, _, l⟩, deep, n => if 0 ≤ n - 1 ∧ deep ≤ 12 then fwL l (deep + 1) (n - 1) else (false, n - 1)
def fwL : List Pt → Int → Int → Bool × Int
 | [], _, n => (true, n)
 | x :: l, deep, n => if (fwR x deep n).1 = true then fwL l deep (fwR x deep n).2 else (false, (fwR x deep n).2)
end
theorem fwL_yes {x : Pt} {l : List Pt} {deep n : Int} (h : (fwR x deep n).1 = true) : fwL (x :: l) deep n = fwL l deep (fwR x deep n).2 := by
 simp only [fwL]
 rw [if_pos h]
theorem fwL_no {x : Pt} {l : List Pt} {deep n : Int} (h : ¬ (fwR x deep n).1 = true) : fwL (x :: l) deep n = (false, (fwR x deep n).2) := by
 simp only [fwL]
 rw [if_neg h]
theorem fwL_append (b : List Pt) : ∀ (a : List Pt) (deep n : Int), fwL (a ++ b) deep n = if (fwL a deep n).1 = true then fwL b deep (fwL a deep n).2 else fwL a deep n
 | [], deep, n => by
  simp only [List.nil_append, fwL, if_true]
 | x :: a, deep, n => by
  by_cases h : (fwR x deep n).1 = true
  · rw [List.cons_append, fwL_yes h, fwL_yes h]
    exact fwL_append b a deep _
  · rw [List.cons_append, fwL_no h, fwL_no h]
    rfl
theorem fwL_snoc {l : List Pt} {k : Nat} {x : Pt} (hx : l[k]? = some x) {deep n m : Int} (h : fwL (l.take k) deep n = (true, m)) : fwL (l.take (k + 1)) deep n = fwR x deep m := by
 rw [List.take_add_one, hx, fwL_append, h]
 simp only [if_true, Option.toList_some, fwL]
 by_cases c : (fwR x deep m).1 = true
 · rw [if_pos c]
   exact Prod.ext c.symm rfl
 · rw [if_neg c]
   exact Prod.ext (by simpa using c) rfl
theorem fwL_front {l : List Pt} {k : Nat} {deep n m : Int} (h : fwL (l.take k) deep n = (false, m)) : fwL l deep n = (false, m) := by
 have e := fwL_append (l.drop k) (l.take k) deep n
 rw [List.take_append_drop, h] at e
 simpa using e
mutual
theorem fwR_bd : ∀ (x : Pt) (deep n : Int), 0 ≤ n → -1 ≤ (fwR x deep n).2 ∧ (fwR x deep n).2 ≤ n ∧ ((fwR x deep n).1 = true → 0 ≤ (fwR x deep n).2)
 | ⟨_, _, _, l⟩, deep, n, h => by
  unfold fwR
  by_cases c : 0 ≤ n - 1 ∧ deep ≤ 12
  · rw [if_pos c]
    have := fwL_bd l (deep + 1) (n - 1) c.1
    exact ⟨this.1, by omega, this.2.2⟩
  · rw [if_neg c]
    exact ⟨by show -1 ≤ n - 1; omega, by show n - 1 ≤ n; omega, fun e => by cases e⟩
theorem fwL_bd : ∀ (l : List Pt) (deep n : Int), 0 ≤ n → -1 ≤ (fwL l deep n).2 ∧ (fwL l deep n).2 ≤ n ∧ ((fwL l deep n).1 = true → 0 ≤ (fwL l deep n).2)
 | [], deep, n, h => ⟨by show -1 ≤ n; omega, Int.le_refl _, fun _ => h⟩
 | x :: l, deep, n, h => by
  have hx := fwR_bd x deep n h
  simp only [fwL]
  by_cases c : (fwR x deep n).1 = true
  · rw [if_pos c]
    have := fwL_bd l deep (fwR x deep n).2 (hx.2.2 c)
    exact ⟨this.1, by omega, this.2.2⟩
  · rw [if_neg c]
    exact ⟨hx.1, hx.2.1, fun e => by cases e⟩
end
def fnF (bl bg : Nat) : Value := .func (.func 63) #[] #[.pointer (some ⟨bl, 0, none⟩), .pointer (some ⟨bg, 0, none⟩)]
def StF (w0 : World) (bl bg : Nat) (n : Int) (W : World) : Prop := Below w0.heap.size w0 W ∧ W.heap[bl]? = some (.cells #[.int .i64 n] 3 (0, 0)) ∧ W.cell? ⟨bg, 0, none⟩ = some (fnF bl bg)
def GoPF (b : Bool) (n : Int) (bl : Nat) (W : World) (e : Ending) (W' : World) : Prop := e = .returned (.bool b) ∧ W.grownBy W' (some bl) ∧ W'.heap[bl]? = some (.cells #[.int .i64 n] 3 (0, 0))
def GoF (x : Pt) : Prop := ∀ (w0 W : World) (bl bg : Nat) (cs : List Value) (deep n : Int), w0.heap.size ≤ bl → w0.heap.size ≤ bg → bl ≠ bg → 0 ≤ n → n ≤ 60 → 1 ≤ deep → deep ≤ 13 → kPt.K w0 x cs → StF w0 bl bg n W →
 Calls Tryd.prog 63 #[.agg cs.toArray, .int .i64 deep, .pointer (some ⟨bl, 0, none⟩), .pointer (some ⟨bg, 0, none⟩)] W (GoPF (fwR x deep n).1 (fwR x deep n).2 bl W)
theorem StF.grown {w0 W W' : World} {bl bg : Nat} {n m : Int} (h : StF w0 bl bg n W) (hl : w0.heap.size ≤ bl) (hne : bl ≠ bg) (hg : W.grownBy W' (some bl)) (hc : W'.heap[bl]? = some (.cells #[.int .i64 m] 3 (0, 0))) : StF w0 bl bg m W' :=
 ⟨Below.grown h.1 hg h.1.size (fun k hk => by obtain rfl := Option.some.inj hk; exact hl), hc, grown_cell hg h.2.2 (fun e => hne e.symm)⟩
def NoPF (b : Bool) (n : Int) (bl : Nat) (W : World) (e : Ending) (W' : World) : Prop := e = .returned (.bool (!b)) ∧ W.grownBy W' (some bl) ∧ W'.heap[bl]? = some (.cells #[.int .i64 n] 3 (0, 0))
set_option maxHeartbeats 1000000 in
set_option maxRecDepth 100000 in
theorem few_part {x : Pt} (hx : GoF x) (w0 W : World) (bl bg bd : Nat) (cs : List Value) (deep n : Int) (h1 : w0.heap.size ≤ bl) (h2 : w0.heap.size ≤ bg) (h3 : bl ≠ bg) (h4 : 0 ≤ n) (h5 : n ≤ 60) (h6 : 1 ≤ deep) (h7 : deep ≤ 12) (hK : kPt.K w0 x cs) (hS : StF w0 bl bg n W) (hd : W.cell? ⟨bd, 0, none⟩ = some (.int .i64 deep)) :
 Calls Tryd.prog 64 #[.agg cs.toArray, .pointer (some ⟨bg, 0, none⟩), .pointer (some ⟨bd, 0, none⟩)] W (NoPF (fwR x (deep + 1) n).1 (fwR x (deep + 1) n).2 bl W) := by
 have HX := Aside0.mk hx
 have HK := Aside0.mk hK
 obtain ⟨A1, c1, A2, c2, A3, c3, rfl, _, _, _, _, _, _⟩ := k37_open hK
 obtain ⟨s1, s2, s3⟩ := hS
 have n1 : bl < W.heap.size := blk_lt s2
 have n2 : bg < W.heap.size := blk_lt' s3
 have n3 : bd < W.heap.size := blk_lt' hd
 have m1 : bg ≠ W.heap.size := by omega
 have m2 : bd ≠ W.heap.size := by omega
 have HS : Aside0 (∀ o, StF w0 bl bg n (W.alloc o)) := ⟨fun o => StF.grown ⟨s1, s2, s3⟩ h1 h3 (World.grownBy_alloc W o _) (blk_alloc s2 o)⟩
 have HG : Aside0 (∀ o, W.grownBy (W.alloc o) (some bl)) := ⟨fun o => World.grownBy_alloc W o _⟩
 unfold fnF at s3
 have y3 : ∀ o, (W.alloc o).cell? ⟨bg, 0, none⟩ = some (.func (.func 63) #[] #[.pointer (some ⟨bl, 0, none⟩), .pointer (some ⟨bg, 0, none⟩)]) := fun o => ((below1 W o).cell (p := ⟨bg, 0, none⟩) n2).trans s3
 have yd : ∀ o, (W.alloc o).cell? ⟨bd, 0, none⟩ = some (.int .i64 deep) := fun o => ((below1 W o).cell (p := ⟨bd, 0, none⟩) n3).trans hd
 have HP : Aside0 (1 ≤ deep + 1 ∧ deep + 1 ≤ 13) := ⟨by omega⟩
 clear hK hx s1 s2 s3 hd n1 n2 n3
 go_enter Tryd.func64, Tryd.ntmps64
 go_wp2_with fail
 refine (HX.out w0 _ bl bg _ (deep + 1) n h1 h2 h3 h4 h5 HP.out.1 HP.out.2 HK.out (HS.out _)).mono ?_
 rintro e w2 ⟨rfl, hg, hc⟩
 have HGC := Aside0.mk (And.intro ((HG.out _).trans hg) hc)
 clear hg hc
 go_wp2
 go_ret
 exact ⟨rfl, HGC.out.1, HGC.out.2⟩
def PartsIF (l : List Pt) (deep n : Int) (bl : Nat) (Wb : World) (i : Nat) (W : World) : Prop := Wb.grownBy W (some bl) ∧ ∃ m, fwL (l.take i) deep n = (true, m) ∧ W.heap[bl]? = some (.cells #[.int .i64 m] 3 (0, 0))
def PartsJF (l : List Pt) (deep n : Int) (bl : Nat) (Wb W : World) : Prop := Wb.grownBy W (some bl) ∧ ∃ m, fwL l deep n = (false, m) ∧ W.heap[bl]? = some (.cells #[.int .i64 m] 3 (0, 0))
theorem few_parts (x : Pt) (hx : ∀ y, y ∈ x.f3 → GoF y) (w0 Wb : World) (bl bg bd : Nat) (A : Option Addr) (c : Nat) (deep n : Int) (h1 : w0.heap.size ≤ bl) (h2 : w0.heap.size ≤ bg) (h3 : bl ≠ bg) (h4 : 0 ≤ n) (h5 : n ≤ 60) (h6 : 1 ≤ deep) (h7 : deep ≤ 12) (hC : kPt.C w0 A x.f3.length x.f3) (hS : StF w0 bl bg n Wb) (hd : Wb.cell? ⟨bd, 0, none⟩ = some (.int .i64 deep)) (hbd : bd ≠ bl) :
 Calls Tryd.prog 22 #[.slice A x.f3.length c, .func (.func 64) #[] #[.pointer (some ⟨bg, 0, none⟩), .pointer (some ⟨bd, 0, none⟩)]] Wb (ConPost x.f3.length (PartsIF x.f3 (deep + 1) n bl Wb) (fun _ => PartsJF x.f3 (deep + 1) n bl Wb)) := by
 have hgr : ∀ i W, PartsIF x.f3 (deep + 1) n bl Wb i W → ∃ m, fwL (x.f3.take i) (deep + 1) n = (true, m) ∧ 0 ≤ m ∧ m ≤ n ∧ Wb.grownBy W (some bl) ∧ StF w0 bl bg m W := fun i W hI => by
  obtain ⟨hg, m, hm, hc⟩ := hI
  have hbm := fwL_bd (x.f3.take i) (deep + 1) n h4
  rw [hm] at hbm
  exact ⟨m, hm, hbm.2.2 rfl, hbm.2.1, hg, StF.grown hS h1 h3 hg hc⟩
 refine few_contains x.f3 A c bg bd _ _ w0 Wb hC (fun i W hI => (hgr i W hI).elim fun m h => h.2.2.2.2.1) (fun i y cs W hy hI hK => ?_) ⟨World.grownBy.refl _ _, n, rfl, hS.2.1⟩
 obtain ⟨m, hm, hm0, hm1, hg, hSt⟩ := hgr i W hI
 have hs := fwL_snoc hy hm
 refine (few_part (hx y (List.mem_of_getElem? hy)) w0 W bl bg bd cs deep m h1 h2 h3 hm0 (by omega) h6 h7 hK hSt (grown_cell hg hd hbd)).mono ?_
 rintro e W2 ⟨rfl, hg2, hc2⟩
 have hg3 := hg.trans hg2
 cases hb : (fwR y (deep + 1) m).1
 · refine Or.inl ⟨rfl, hg3, (fwR y (deep + 1) m).2, ?_, hc2⟩
   exact fwL_front (hs.trans (Prod.ext hb rfl))
 · exact Or.inr ⟨rfl, hg3, (fwR y (deep + 1) m).2, hs.trans (Prod.ext hb rfl), hc2⟩
theorem few_world {W : World} {bl : Nat} {n : Int} (hb : W.heap[bl]? = some (.cells #[.int .i64 n] 3 (0, 0))) (o1 : Obj) (deep m : Int) :
 W.grownBy (((W.alloc o1).alloc (.cells #[.int .i64 deep] 3)).setCell ⟨bl, 0, none⟩ (.int .i64 m)) (some bl) ∧ (((W.alloc o1).alloc (.cells #[.int .i64 deep] 3)).setCell ⟨bl, 0, none⟩ (.int .i64 m)).heap[bl]? = some (.cells #[.int .i64 m] 3 (0, 0)) ∧
 (((W.alloc o1).alloc (.cells #[.int .i64 deep] 3)).setCell ⟨bl, 0, none⟩ (.int .i64 m)).cell? ⟨W.heap.size + 1, 0, none⟩ = some (.int .i64 deep) := by
 have hlt := blk_lt hb
 have h2 := blk_alloc (blk_alloc hb o1) (.cells #[.int .i64 deep] 3)
 have hnew := blk_new (W.alloc o1) (.cells #[.int .i64 deep] 3)
 have hsz : (W.alloc o1).heap.size = W.heap.size + 1 := by simp
 rw [hsz] at hnew
 refine ⟨(World.grownBy_alloc W o1 _).trans ((World.grownBy_alloc _ _ _).trans (grownBy_setCell' _ bl _)), blk_put h2 0 _ rfl, ?_⟩
 exact (blk_cell (blk_far hnew (show W.heap.size + 1 ≠ bl by omega) _) 0).trans rfl
set_option maxHeartbeats 1000000 in
set_option maxRecDepth 100000 in
theorem few_go (x : Pt) (hx : ∀ y, y ∈ x.f3 → GoF y) : GoF x := by
 intro w0 W bl bg cs deep n h1 h2 h3 h4 h5 h6 h7 hK hS
 have HK := Aside0.mk hK
 obtain ⟨A1, p1, A2, p2, A3, p3, rfl, _, _, _, _, _, hC2⟩ := k37_open hK
 have HC2 := Aside0.mk hC2
 obtain ⟨s1, s2, s3⟩ := hS
 have n1 : bl < W.heap.size := blk_lt s2
 have n2 : bg < W.heap.size := blk_lt' s3
 have m1 : bl ≠ W.heap.size := by omega
 have m2 : bl ≠ W.heap.size + 1 := by omega
 have HHS := Aside0.mk (show StF w0 bl bg n W from ⟨s1, s2, s3⟩)
 have HHX := Aside0.mk hx
 have HGW := Aside0.mk (few_world s2 (.cells #[.int .i64 x.f0, .slice A1 x.f1.length p1, .slice A2 x.f2.length p2, .slice A3 x.f3.length p3] 37) deep (n - 1))
 have e1 : fwR x deep n = if 0 ≤ n - 1 ∧ deep ≤ 12 then fwL x.f3 (deep + 1) (n - 1) else (false, n - 1) := by
  cases x
  rfl
 have y2 : ∀ o o2, ((W.alloc o).alloc o2).cell? ⟨bl, 0, none⟩ = some (.int .i64 n) := fun o o2 => (blk_cell (blk_alloc (blk_alloc s2 o) o2) 0).trans rfl
 have z2 : ∀ o o2, ((W.alloc o).alloc o2).frozen? ⟨bl, 0, none⟩ = false := fun o o2 => blk_frozen (blk_alloc (blk_alloc s2 o) o2) 0
 clear hK hx s1 s2 s3 n1 n2 hC2
 by_cases c1 : 0 ≤ n - 1
 · by_cases c2 : deep ≤ 12
   · rw [if_pos ⟨c1, c2⟩] at e1
     rw [e1]
     clear e1
     have HD : Aside0 (W.heap.size + 1 ≠ bl) := ⟨fun e => m2 e.symm⟩
     go_enter Tryd.func63, Tryd.ntmps63
     go_wp2_with fail
     refine (few_parts x HHX.out w0 _ bl bg (W.heap.size + 1) A3 p3 deep (n - 1) h1 h2 h3 c1 (by omega) h6 c2 HC2.out (StF.grown HHS.out h1 h3 HGW.out.1 HGW.out.2.1) HGW.out.2.2 HD.out).mono ?_
     rintro e w2 hp
     rcases hp with ⟨rfl, _, _, hg, m, hm, hc⟩ | ⟨rfl, hg, m, hm, hc⟩
     · have HP := Aside0.mk (And.intro (HGW.out.1.trans hg) (And.intro hm hc))
       clear hg hm hc
       go_wp2
       go_ret
       rw [HP.out.2.1]
       exact ⟨rfl, HP.out.1, HP.out.2.2⟩
     · rw [List.take_length] at hm
       have HP := Aside0.mk (And.intro (HGW.out.1.trans hg) (And.intro hm hc))
       clear hg hm hc
       go_wp2
       go_ret
       rw [HP.out.2.1]
       exact ⟨rfl, HP.out.1, HP.out.2.2⟩
   · rw [if_neg (fun h => c2 h.2)] at e1
     rw [e1]
     have hd : decide (deep ≤ 12) = false := decide_eq_false c2
     clear e1
     go_enter Tryd.func63, Tryd.ntmps63
     go_wp2
     go_ret
     exact ⟨rfl, HGW.out.1, HGW.out.2.1⟩
 · rw [if_neg (fun h => c1 h.1)] at e1
   rw [e1]
   have hd : decide (0 ≤ n - 1) = false := decide_eq_false c1
   have hd2 : decide (1 ≤ n) = false := decide_eq_false (by omega)
   clear e1
   go_enter Tryd.func63, Tryd.ntmps63
   go_wp2
   go_ret
   exact ⟨rfl, HGW.out.1, HGW.out.2.1⟩
theorem few_all : ∀ (N : Nat) (x : Pt), SizeOf.sizeOf x < N → GoF x
 | 0, x, h => absurd h (Nat.not_lt_zero _)
 | N + 1, x, h => few_go x (fun y hy => few_all N y (by
     have h1 := List.sizeOf_lt_of_mem hy
     have h2 : SizeOf.sizeOf x.f3 < SizeOf.sizeOf x := by
      cases x
      simp
      omega
     omega))
attribute [local go_sem] run_store_func
theorem few_start (w : World) (o1 : Obj) :
 Below w.heap.size w (((w.alloc o1).alloc (.cells #[.int .i64 60] 3)).alloc (.cells #[fnF (w.heap.size + 1) (w.heap.size + 1 + 1)] 98)) ∧
 StF w (w.heap.size + 1) (w.heap.size + 1 + 1) 60 (((w.alloc o1).alloc (.cells #[.int .i64 60] 3)).alloc (.cells #[fnF (w.heap.size + 1) (w.heap.size + 1 + 1)] 98)) := by
 have h3 := third w o1 (.cells #[.int .i64 60] 3) #[fnF (w.heap.size + 1) (w.heap.size + 1 + 1)] 98
 have h2 := blk_alloc (second w o1 #[.int .i64 60] 3) (.cells #[fnF (w.heap.size + 1) (w.heap.size + 1 + 1)] 98)
 have hB := below_alloc (below_alloc (below1 w o1) (.cells #[.int .i64 60] 3)) (.cells #[fnF (w.heap.size + 1) (w.heap.size + 1 + 1)] 98)
 exact ⟨hB, hB, h2, (blk_cell h3 0).trans rfl⟩
def fewS (x : Pt) : Bool := (fwR x 1 60).1
set_option maxHeartbeats 1000000 in
set_option maxRecDepth 100000 in
theorem few_any (x : Pt) (w0 w : World) (cs : List Value) (hB : Below w0.heap.size w0 w) (hK0 : kPt.K w0 x cs) :
 Calls Tryd.prog 55 #[.agg cs.toArray] w fun e w' => e = .returned (.bool (fewS x)) ∧ Below w.heap.size w w' := by
 have hK := kPt.K_below hB hK0
 have HK := Aside0.mk hK
 have HG := Aside0.mk (few_all (SizeOf.sizeOf x + 1) x (Nat.lt_succ_self _))
 obtain ⟨A1, p1, A2, p2, A3, p3, rfl, _, _, _, _, _, _⟩ := k37_open hK
 have HW := Aside0.mk (few_start w (.cells #[.int .i64 x.f0, .slice A1 x.f1.length p1, .slice A2 x.f2.length p2, .slice A3 x.f3.length p3] 37))
 clear hK hK0 hB
 go_enter Tryd.func55, Tryd.ntmps55
 go_wp2_with fail
 refine (HG.out w _ (w.heap.size + 1) (w.heap.size + 1 + 1) _ 1 60 (by omega) (by omega) (by omega) (by decide) (by decide) (by decide) (by decide) HK.out HW.out.2).mono ?_
 rintro e w2 ⟨rfl, hg, hc⟩
 have HB := Aside0.mk (Below.grown HW.out.1 hg HW.out.1.size (fun k hk => by obtain rfl := Option.some.inj hk; omega))
 clear hg hc
 go_wp2
 go_ret
 exact ⟨rfl, HB.out⟩
end Go.Proofs.YthdfmbmbjpmlaaaDoor.Rn
end
section
namespace Go.Proofs.YthdfmbmbjpmlaaaDoor.Rn
open Go.RowKit Go.Proofs.YthdfmbmbjpmlaaaDoorW.PrintWords Go.Proofs.YthdfmbmbjpmlaaaDoorW.PrintLast Go.Proofs.YthdfmbmbjpmlaaaDoorW.PrintMore
attribute [local go_sem] max2_int min2_int max_two min_two max_three min_three max_four min_four   -- for this text's walks alone
set_option linter.unusedVariables false
set_option linter.unusedSimpArgs false
mutual
def gram_parts.j0 : Nat → Int → Bool → Option (Int)
 | 0, _, _ => none
 | k + 1, x3, x4 => if x4 = true then (some 0) else (if x3 = 3 then (gram_parts.j1 k x3 (x3 == 3)) else (gram_parts.j1 k x3 (x3 == 7)))
def gram_parts.j1 : Nat → Int → Bool → Option (Int)
 | 0, _, _ => none
 | k + 1, x3, x8 => if x8 = true then (some 1) else (if x3 = 5 then (some 2) else (if x3 = 6 then (some 2) else (some (-1))))
end
def gram_parts.f (k : Nat) (a0 : Int) : Option (Int) := if a0 = 1 then (gram_parts.j0 k a0 (a0 == 1)) else (if a0 = 2 then (gram_parts.j0 k a0 (a0 == 2)) else (gram_parts.j0 k a0 (a0 == 4)))
theorem gram_parts.mono_l : ∀ k, (∀ y0 y1, LeO (gram_parts.j0 k y0 y1) (gram_parts.j0 (k + 1) y0 y1)) ∧ (∀ y0 y1, LeO (gram_parts.j1 k y0 y1) (gram_parts.j1 (k + 1) y0 y1))
 | 0 => ⟨fun _ _ r h => by simp [gram_parts.j0] at h, fun _ _ r h => by simp [gram_parts.j1] at h⟩
 | k + 1 => by
  obtain ⟨ih0, ih1⟩ := gram_parts.mono_l k
  refine ⟨?_, ?_⟩
  · intro y0 y1
    unfold gram_parts.j0
    repeat' first
    | (with_reducible exact ih0 _ _)
    | (with_reducible exact ih1 _ _)
    | (with_reducible exact LeO.refl _)
    | (with_reducible exact LeO.none _)
    | (with_reducible refine LeO.ite ?_ ?_)
    | (with_reducible refine LeO.bind ?_ (fun _ => ?_))
    | exact ih0 _ _
    | exact ih1 _ _
    | exact LeO.none _
    | refine LeO.ite ?_ ?_
    | refine LeO.bind ?_ (fun _ => ?_)
  · intro y0 y1
    unfold gram_parts.j1
    repeat' first
    | (with_reducible exact ih0 _ _)
    | (with_reducible exact ih1 _ _)
    | (with_reducible exact LeO.refl _)
    | (with_reducible exact LeO.none _)
    | (with_reducible refine LeO.ite ?_ ?_)
    | (with_reducible refine LeO.bind ?_ (fun _ => ?_))
    | exact ih0 _ _
    | exact ih1 _ _
    | exact LeO.none _
    | refine LeO.ite ?_ ?_
    | refine LeO.bind ?_ (fun _ => ?_)
theorem gram_parts.mono : ∀ a0 k, LeO (gram_parts.f k a0) (gram_parts.f (k + 1) a0) := by
 intro a0 k
 obtain ⟨ih0, ih1⟩ := gram_parts.mono_l k
 unfold gram_parts.f
 repeat' first
  | (with_reducible exact ih0 _ _)
  | (with_reducible exact ih1 _ _)
  | (with_reducible exact LeO.refl _)
  | (with_reducible exact LeO.none _)
  | (with_reducible refine LeO.ite ?_ ?_)
  | (with_reducible refine LeO.bind ?_ (fun _ => ?_))
  | exact ih0 _ _
  | exact ih1 _ _
  | exact LeO.none _
  | refine LeO.ite ?_ ?_
  | refine LeO.bind ?_ (fun _ => ?_)
set_option maxHeartbeats 8000000 in
set_option maxRecDepth 100000 in
theorem gram_parts.calls (k : Nat) (a0 : Int) (r : Int) (w : World) (h : gram_parts.f k a0 = some r) :
 Calls Tryd.prog 68 #[.int .i64 a0] w fun e w' => e = .returned (.int .i64 r) ∧ Drawn0 w w' := by
 have H : (if a0 = 1 then (gram_parts.j0 k a0 (a0 == 1)) else (if a0 = 2 then (gram_parts.j0 k a0 (a0 == 2)) else (gram_parts.j0 k a0 (a0 == 4)))) = some r := h
 clear h
 have HC2 := Aside0.mk H
 clear H
 go_enter Tryd.func68, Tryd.ntmps68
 go_upto_if 4 with (fail)
 go_cut [4] (fun v4 wc => ∃ (kq : Nat) (x4_1 : Bool), v4 = .bool x4_1 ∧ Aside0 (gram_parts.j0 kq a0 x4_1 = some r) ∧ Aside0 (kq ≤ k) ∧ Drawn0 w wc)
 case first =>
  have H := HC2.out
  clear HC2
  by_cases c3 : a0 = 1
  · rw [if_pos c3] at H
    have c3b0 : (a0 == 1) = true := beq_iff_eq.mpr c3
    have c3b1 : (a0 != 1) = false := bne_eq_false_iff_eq.mpr c3
    clear c3
    (first | rw [c3b0] | (simp only [i64_w, i32_w]; rw [c3b0]) | skip)
    have H' := Aside0.mk H
    clear H
    go_wp2
    go_meet
    case rel => exact ⟨_, ((a0 == 1)), (by first | rfl | (simp; done) | (simp [*]; done)), H', ⟨by first | omega | exact Nat.le_refl _⟩, by repeat (first | exact Drawn0.refl _ | apply Drawn0.step)⟩
  · rw [if_neg c3] at H
    have c3b0 : (a0 == 1) = false := beq_eq_false_iff_ne.mpr c3
    have c3b1 : (a0 != 1) = true := bne_iff_ne.mpr c3
    (first | rw [c3b0] | (simp only [i64_w, i32_w]; rw [c3b0]) | skip)
    by_cases c4 : a0 = 2
    · rw [if_pos c4] at H
      have c4b0 : (a0 == 2) = true := beq_iff_eq.mpr c4
      have c4b1 : (a0 != 2) = false := bne_eq_false_iff_eq.mpr c4
      clear c4
      have H' := Aside0.mk H
      clear H
      go_wp2
      go_meet
      case rel => exact ⟨_, ((a0 == 2)), (by first | rfl | (simp; done) | (simp [*]; done)), H', ⟨by first | omega | exact Nat.le_refl _⟩, by repeat (first | exact Drawn0.refl _ | apply Drawn0.step)⟩
    · rw [if_neg c4] at H
      have c4b0 : (a0 == 2) = false := beq_eq_false_iff_ne.mpr c4
      have c4b1 : (a0 != 2) = true := bne_iff_ne.mpr c4
      have H' := Aside0.mk H
      clear H
      go_wp2
      go_meet
      case rel => exact ⟨_, ((a0 == 4)), (by first | rfl | (simp; done) | (simp [*]; done)), H', ⟨by first | omega | exact Nat.le_refl _⟩, by repeat (first | exact Drawn0.refl _ | apply Drawn0.step)⟩
 case rest =>
  clear HC2
  try clear p2
  try clear c3
  try clear c3b0
  try clear c3b1
  try clear c4
  try clear c4b0
  try clear c4b1
  obtain ⟨kq, x4_1, rfl, HA, HJ1, ⟨mc1, rfl⟩⟩ := hcut
  cases kq with
  | zero => exact absurd HA.out (by simp [gram_parts.j0])
  | succ kj1 =>
   have H := HA.out
   clear HA
   simp only [gram_parts.j0] at H
   by_cases c5 : x4_1 = true
   · subst c5
     have H1 : (some 0) = some r := by rw [if_pos rfl] at H; exact H
     clear H
     have H := H1
     clear H1
     obtain rfl := Option.some.inj H
     go_wp2
     go_ret
     exact ⟨by first | rfl | (simp; done) | (simp [*]; done), by repeat (first | exact Drawn0.refl _ | apply Drawn0.step)⟩
   · replace c5 := Bool.eq_false_iff.mpr c5
     subst c5
     have H1 : (if a0 = 3 then (gram_parts.j1 kj1 a0 (a0 == 3)) else (gram_parts.j1 kj1 a0 (a0 == 7))) = some r := by rw [if_neg (show ¬ (false = true) by decide)] at H; exact H
     clear H
     have H := H1
     clear H1
     have HC6 := Aside0.mk H
     clear H
     go_upto_if 8 with (fail)
     go_cut [8] (fun v8 wc => ∃ (kq : Nat) (x8_5 : Bool), v8 = .bool x8_5 ∧ Aside0 (gram_parts.j1 kq a0 x8_5 = some r) ∧ Aside0 (kq ≤ kj1) ∧ Drawn0 w wc)
     case first =>
      have H := HC6.out
      clear HC6
      by_cases c7 : a0 = 3
      · rw [if_pos c7] at H
        have c7b0 : (a0 == 3) = true := beq_iff_eq.mpr c7
        have c7b1 : (a0 != 3) = false := bne_eq_false_iff_eq.mpr c7
        clear c7
        (first | rw [c7b0] | (simp only [i64_w, i32_w]; rw [c7b0]) | skip)
        have H' := Aside0.mk H
        clear H
        go_wp2
        go_meet
        case rel => exact ⟨_, ((a0 == 3)), (by first | rfl | (simp; done) | (simp [*]; done)), H', ⟨by have := HJ1.out; first | omega | exact Nat.le_refl _⟩, by repeat (first | exact Drawn0.refl _ | apply Drawn0.step)⟩
      · rw [if_neg c7] at H
        have c7b0 : (a0 == 3) = false := beq_eq_false_iff_ne.mpr c7
        have c7b1 : (a0 != 3) = true := bne_iff_ne.mpr c7
        (first | rw [c7b0] | (simp only [i64_w, i32_w]; rw [c7b0]) | skip)
        have H' := Aside0.mk H
        clear H
        go_wp2
        go_meet
        case rel => exact ⟨_, ((a0 == 7)), (by first | rfl | (simp; done) | (simp [*]; done)), H', ⟨by have := HJ1.out; first | omega | exact Nat.le_refl _⟩, by repeat (first | exact Drawn0.refl _ | apply Drawn0.step)⟩
     case rest =>
      clear HC6
      try clear c1
      try clear p2
      try clear c3
      try clear c3b0
      try clear c3b1
      try clear c4
      try clear c4b0
      try clear c4b1
      try clear c5
      try clear c6
      try clear c7
      try clear c7b0
      try clear c7b1
      try clear p2
      obtain ⟨kq, x8_5, rfl, HA, HJ5, ⟨mc5, rfl⟩⟩ := hcut
      cases kq with
      | zero => exact absurd HA.out (by simp [gram_parts.j1])
      | succ kj5 =>
       have H := HA.out
       clear HA
       simp only [gram_parts.j1] at H
       by_cases c8 : x8_5 = true
       · subst c8
         have H1 : (some 1) = some r := by rw [if_pos rfl] at H; exact H
         clear H
         have H := H1
         clear H1
         obtain rfl := Option.some.inj H
         go_wp2
         go_ret
         exact ⟨by first | rfl | (simp; done) | (simp [*]; done), by repeat (first | exact Drawn0.refl _ | apply Drawn0.step)⟩
       · replace c8 := Bool.eq_false_iff.mpr c8
         subst c8
         have H1 : (if a0 = 5 then (some 2) else (if a0 = 6 then (some 2) else (some (-1)))) = some r := by rw [if_neg (show ¬ (false = true) by decide)] at H; exact H
         clear H
         have H := H1
         clear H1
         by_cases c9 : a0 = 5
         · rw [if_pos c9] at H
           have c9b0 : (a0 == 5) = true := beq_iff_eq.mpr c9
           have c9b1 : (a0 != 5) = false := bne_eq_false_iff_eq.mpr c9
           clear c9
           obtain rfl := Option.some.inj H
           go_wp2
           go_ret
           exact ⟨by first | rfl | (simp; done) | (simp [*]; done), by repeat (first | exact Drawn0.refl _ | apply Drawn0.step)⟩
         · rw [if_neg c9] at H
           have c9b0 : (a0 == 5) = false := beq_eq_false_iff_ne.mpr c9
           have c9b1 : (a0 != 5) = true := bne_iff_ne.mpr c9
           by_cases c10 : a0 = 6
           · rw [if_pos c10] at H
             have c10b0 : (a0 == 6) = true := beq_iff_eq.mpr c10
             have c10b1 : (a0 != 6) = false := bne_eq_false_iff_eq.mpr c10
             clear c10
             obtain rfl := Option.some.inj H
             go_wp2
             go_ret
             exact ⟨by first | rfl | (simp; done) | (simp [*]; done), by repeat (first | exact Drawn0.refl _ | apply Drawn0.step)⟩
           · rw [if_neg c10] at H
             have c10b0 : (a0 == 6) = false := beq_eq_false_iff_ne.mpr c10
             have c10b1 : (a0 != 6) = true := bne_iff_ne.mpr c10
             obtain rfl := Option.some.inj H
             go_wp2
             go_ret
             exact ⟨by first | rfl | (simp; done) | (simp [*]; done), by repeat (first | exact Drawn0.refl _ | apply Drawn0.step)⟩
end Go.Proofs.YthdfmbmbjpmlaaaDoor.Rn
end
section
set_option linter.unusedVariables false
set_option linter.unusedSimpArgs false
namespace Go.Proofs.YthdfmbmbjpmlaaaDoor.Rn
open Go Go.RowKit Go.Proofs.YthdfmbmbjpmlaaaDoorW.PrintWords Go.Proofs.YthdfmbmbjpmlaaaDoorW.PrintLast Go.Proofs.YthdfmbmbjpmlaaaDoorW.PrintMore
def partsP (a : Int) : Int := if a = 1 ∨ a = 2 ∨ a = 4 then 0 else if a = 3 ∨ a = 7 then 1 else if a = 5 ∨ a = 6 then 2 else -1
theorem partsP_f (a : Int) : gram_parts.f 5 a = some (partsP a) := by
 unfold gram_parts.f partsP
 by_cases h1 : a = 1
 · subst h1; rfl
 by_cases h2 : a = 2
 · subst h2; rfl
 by_cases h3 : a = 3
 · subst h3; rfl
 by_cases h4 : a = 4
 · subst h4; rfl
 by_cases h5 : a = 5
 · subst h5; rfl
 by_cases h6 : a = 6
 · subst h6; rfl
 by_cases h7 : a = 7
 · subst h7; rfl
 simp [h1, h2, h3, h4, h5, h6, h7, gram_parts.j0, gram_parts.j1]
def shapedS (x : Pt) : Bool := ((x.f3.length : Int) == partsP x.f0) && ((decide (0 < (x.f1.length : Int))) == (x.f0 == 3 || x.f0 == 2)) && ((decide (0 < (x.f2.length : Int))) == (x.f0 == 3))
set_option maxHeartbeats 4000000 in
set_option maxRecDepth 100000 in
theorem shaped_any (x : Pt) (w0 W : World) (cs : List Value) (hB : Below w0.heap.size w0 W) (hK : kPt.K w0 x cs) :
 Calls Tryd.prog 65 #[.agg cs.toArray] W fun e W' => e = .returned (.bool (shapedS x)) ∧ Below W.heap.size W W' := by
 obtain ⟨A1, p1, A2, p2, A3, p3, rfl, _, _, _, _, _, _⟩ := k37_open hK
 obtain ⟨w1, hw1⟩ : ∃ w1, W.alloc (.cells #[.int .i64 x.f0, .slice A1 x.f1.length p1, .slice A2 x.f2.length p2, .slice A3 x.f3.length p3] 37) = w1 := ⟨_, rfl⟩
 have hnew : w1.heap[W.heap.size]? = some (.cells #[.int .i64 x.f0, .slice A1 x.f1.length p1, .slice A2 x.f2.length p2, .slice A3 x.f3.length p3] 37 (0, 0)) := by rw [← hw1]; exact blk_new _ _
 have hB1 : Below W.heap.size W w1 := hw1 ▸ below1 W _
 have q0 : ∀ p : Later w1, p.wx.cell? ⟨W.heap.size, 0, none⟩ = some (.int .i64 x.f0) := fun p => cell_after p.below ((blk_cell hnew 0).trans rfl)
 have q1 : ∀ p : Later w1, p.wx.cell? ⟨W.heap.size, 1, none⟩ = some (.slice A1 x.f1.length p1) := fun p => cell_after p.below ((blk_cell hnew 1).trans rfl)
 have q2 : ∀ p : Later w1, p.wx.cell? ⟨W.heap.size, 2, none⟩ = some (.slice A2 x.f2.length p2) := fun p => cell_after p.below ((blk_cell hnew 2).trans rfl)
 have q3 : ∀ p : Later w1, p.wx.cell? ⟨W.heap.size, 3, none⟩ = some (.slice A3 x.f3.length p3) := fun p => cell_after p.below ((blk_cell hnew 3).trans rfl)
 have z0 : w1.cell? ⟨W.heap.size, 0, none⟩ = some (.int .i64 x.f0) := (blk_cell hnew 0).trans rfl
 have HLAT : Aside0 (Below w1.heap.size w1 w1.drew) := ⟨below_drew1 (Below.refl _ _)⟩
 have HB1 := Aside0.mk hB1
 obtain ⟨b, hb⟩ : ∃ b, shapedS x = b := ⟨_, rfl⟩
 rw [hb]
 have RET : Aside0 (∀ v w', shapedS x = v → Below W.heap.size W w' → (Ending.returned (.bool v) = Ending.returned (.bool b) ∧ Below W.heap.size W w')) := ⟨fun v w' h1 h2 => ⟨by rw [← hb, h1], h2⟩⟩
 obtain ⟨c1, h1⟩ : ∃ c, ((x.f3.length : Int) == partsP x.f0) = c := ⟨_, rfl⟩
 obtain ⟨c2, h2⟩ : ∃ c, decide (0 < (x.f1.length : Int)) = c := ⟨_, rfl⟩
 obtain ⟨c3, h3⟩ : ∃ c, decide (0 < (x.f2.length : Int)) = c := ⟨_, rfl⟩
 obtain ⟨c4, h4⟩ : ∃ c, (x.f0 == 3) = c := ⟨_, rfl⟩
 obtain ⟨c5, h5⟩ : ∃ c, (x.f0 == 2) = c := ⟨_, rfl⟩
 have HV : Aside0 (shapedS x = (c1 && (c2 == (c4 || c5)) && (c3 == c4))) := ⟨by unfold shapedS; rw [h1, h2, h3, h4, h5]⟩
 have h2' : decide (0 < x.f1.length) = c2 := by rw [← h2]; simp
 have h3' : decide (0 < x.f2.length) = c3 := by rw [← h3]; simp
 clear hK hB hB1 hb hnew
 have cs7 : c1 = false ∨ c1 = true ∧ c4 = true ∧ c2 = true ∨ c1 = true ∧ c4 = true ∧ c2 = false ∨ c1 = true ∧ c4 = false ∧ c2 = true ∧ c5 = true ∨ c1 = true ∧ c4 = false ∧ c2 = true ∧ c5 = false ∨ c1 = true ∧ c4 = false ∧ c2 = false ∧ c5 = true ∨ c1 = true ∧ c4 = false ∧ c2 = false ∧ c5 = false := by
  cases c1 <;> cases c2 <;> cases c4 <;> cases c5 <;> simp
 rcases cs7 with rfl | ⟨rfl, rfl, rfl⟩ | ⟨rfl, rfl, rfl⟩ | ⟨rfl, rfl, rfl, rfl⟩ | ⟨rfl, rfl, rfl, rfl⟩ | ⟨rfl, rfl, rfl, rfl⟩ | ⟨rfl, rfl, rfl, rfl⟩
 all_goals
  go_enter Tryd.func65, Tryd.ntmps65
  go_wp2
  clear hw1 z0
  have hund : undef = Value.tuple #[] := rfl
  refine wp_region_held (S := fun w' => ∃ p : Later w1, w' = p.wx) (by kernel_rfl) ?_
  change wpAnyH _ _ _ _ _ _ _ _ (World.drew _)
  ((refine takeQ (i := 0) (by rfl) (by kernel_rfl) (by kernel_rfl) (by kernel_rfl) ?_ ?_ ?_); (focus first | exact fun _ _ _ _ h => h | exact fun _ _ _ _ h => HPQ.out _ _ _ _ (by rfl) h); (focus exact ⟨⟨_, HLAT.out⟩, rfl⟩); intro K hK; go_simp; (with_reducible refine hK _ ?_); clear hK K)
  ((refine takeQ (i := 1) (by rfl) (by kernel_rfl) (by kernel_rfl) (by kernel_rfl) ?_ ?_ ?_); (focus first | exact fun _ _ _ _ h => h | exact fun _ _ _ _ h => HPQ.out _ _ _ _ (by rfl) h); (focus exact ⟨⟨_, HLAT.out⟩, rfl⟩); intro K hK; go_simp; (with_reducible refine hK _ ?_); clear hK K)
  ((refine takeQ (i := 2) (by rfl) (by kernel_rfl) (by kernel_rfl) (by kernel_rfl) ?_ ?_ ?_); (focus first | exact fun _ _ _ _ h => h | exact fun _ _ _ _ h => HPQ.out _ _ _ _ (by rfl) h); (focus exact ⟨⟨_, HLAT.out⟩, rfl⟩); intro K hK; go_simp; (with_reducible refine hK _ ?_); clear hK K)
  ((refine takeQ (i := 3) (by rfl) (by kernel_rfl) (by kernel_rfl) (by kernel_rfl) ?_ ?_ ?_); (focus first | exact fun _ _ _ _ h => h | exact fun _ _ _ _ h => HPQ.out _ _ _ _ (by rfl) h); (focus exact ⟨⟨_, HLAT.out⟩, rfl⟩); intro K hK; go_simp; (with_reducible refine hK _ ?_); clear hK K)
  ((refine takeQ (i := 4) (by rfl) (by kernel_rfl) (by kernel_rfl) (by kernel_rfl) ?_ ?_ ?_); (focus first | exact fun _ _ _ _ h => h | exact fun _ _ _ _ h => HPQ.out _ _ _ _ (by rfl) h); (focus exact ⟨⟨_, HLAT.out⟩, rfl⟩); intro K hK; go_simp; (with_reducible refine hK _ ?_); clear hK K)
  refine hall1 (i := 5) (by kernel_rfl) (by rfl) (fun K hK => ?_)
  go_simp
  refine (gram_parts.calls 5 x.f0 (partsP x.f0) _ (partsP_f _)).mono ?_
  rintro e u1 ⟨rfl, hd⟩
  have HU1 : Aside0 (Below w1.heap.size w1 u1) := ⟨join_below HLAT.out hd.below⟩
  clear hd
  refine hK _ _ ⟨⟨_, HU1.out⟩, rfl⟩ ?_
  clear hK K
  ((refine takeQ (i := 6) (by rfl) (by kernel_rfl) (by kernel_rfl) (by kernel_rfl) ?_ ?_ ?_); (focus first | exact fun _ _ _ _ h => h | exact fun _ _ _ _ h => HPQ.out _ _ _ _ (by rfl) h); (focus exact ⟨⟨_, HU1.out⟩, rfl⟩); intro K hK; go_simp; (with_reducible refine hK _ ?_); clear hK K)
  ((refine takeQ (i := 7) (by rfl) (by kernel_rfl) (by kernel_rfl) (by kernel_rfl) ?_ ?_ ?_); (focus first | exact fun _ _ _ _ h => h | exact fun _ _ _ _ h => HPQ.out _ _ _ _ (by rfl) h); (focus exact ⟨⟨_, HU1.out⟩, rfl⟩); intro K hK; go_simp; (with_reducible refine hK _ ?_); clear hK K)
  ((refine takeQ (i := 8) (by rfl) (by kernel_rfl) (by kernel_rfl) (by kernel_rfl) ?_ ?_ ?_); (focus first | exact fun _ _ _ _ h => h | exact fun _ _ _ _ h => HPQ.out _ _ _ _ (by rfl) h); (focus exact ⟨⟨_, HU1.out⟩, rfl⟩); intro K hK; go_simp; (with_reducible refine hK _ ?_); clear hK K)
  ((refine takeQ (i := 9) (by rfl) (by kernel_rfl) (by kernel_rfl) (by kernel_rfl) ?_ ?_ ?_); (focus first | exact fun _ _ _ _ h => h | exact fun _ _ _ _ h => HPQ.out _ _ _ _ (by rfl) h); (focus exact ⟨⟨_, HU1.out⟩, rfl⟩); intro K hK; go_simp; (with_reducible refine hK _ ?_); clear hK K)
  ((refine takeQ (i := 10) (by rfl) (by kernel_rfl) (by kernel_rfl) (by kernel_rfl) ?_ ?_ ?_); (focus first | exact fun _ _ _ _ h => h | exact fun _ _ _ _ h => HPQ.out _ _ _ _ (by rfl) h); (focus exact ⟨⟨_, HU1.out⟩, rfl⟩); intro K hK; go_simp; (with_reducible refine hK _ ?_); clear hK K)
  ((refine takeQ (i := 11) (by rfl) (by kernel_rfl) (by kernel_rfl) (by kernel_rfl) ?_ ?_ ?_); (focus first | exact fun _ _ _ _ h => h | exact fun _ _ _ _ h => HPQ.out _ _ _ _ (by rfl) h); (focus exact ⟨⟨_, HU1.out⟩, rfl⟩); intro K hK; go_simp; (with_reducible refine hK _ ?_); clear hK K)
  ((refine takeQ (i := 12) (by rfl) (by kernel_rfl) (by kernel_rfl) (by kernel_rfl) ?_ ?_ ?_); (focus first | exact fun _ _ _ _ h => h | exact fun _ _ _ _ h => HPQ.out _ _ _ _ (by rfl) h); (focus exact ⟨⟨_, HU1.out⟩, rfl⟩); intro K hK; go_simp; (with_reducible refine hK _ ?_); clear hK K)
  ((refine takeQ (i := 13) (by rfl) (by kernel_rfl) (by kernel_rfl) (by kernel_rfl) ?_ ?_ ?_); (focus first | exact fun _ _ _ _ h => h | exact fun _ _ _ _ h => HPQ.out _ _ _ _ (by rfl) h); (focus exact ⟨⟨_, HU1.out⟩, rfl⟩); intro K hK; go_simp; (with_reducible refine hK _ ?_); clear hK K)
  ((refine takeQ (i := 14) (by rfl) (by kernel_rfl) (by kernel_rfl) (by kernel_rfl) ?_ ?_ ?_); (focus first | exact fun _ _ _ _ h => h | exact fun _ _ _ _ h => HPQ.out _ _ _ _ (by rfl) h); (focus exact ⟨⟨_, HU1.out⟩, rfl⟩); intro K hK; go_simp; (with_reducible refine hK _ ?_); clear hK K)
  ((refine takeQ (i := 15) (by rfl) (by kernel_rfl) (by kernel_rfl) (by kernel_rfl) ?_ ?_ ?_); (focus first | exact fun _ _ _ _ h => h | exact fun _ _ _ _ h => HPQ.out _ _ _ _ (by rfl) h); (focus exact ⟨⟨_, HU1.out⟩, rfl⟩); intro K hK; go_simp; (with_reducible refine hK _ ?_); clear hK K)
  ((refine takeQ (i := 16) (by rfl) (by kernel_rfl) (by kernel_rfl) (by kernel_rfl) ?_ ?_ ?_); (focus first | exact fun _ _ _ _ h => h | exact fun _ _ _ _ h => HPQ.out _ _ _ _ (by rfl) h); (focus exact ⟨⟨_, HU1.out⟩, rfl⟩); intro K hK; go_simp; (with_reducible refine hK _ ?_); clear hK K)
  ((refine takeQ (i := 17) (by rfl) (by kernel_rfl) (by kernel_rfl) (by kernel_rfl) ?_ ?_ ?_); (focus first | exact fun _ _ _ _ h => h | exact fun _ _ _ _ h => HPQ.out _ _ _ _ (by rfl) h); (focus exact ⟨⟨_, HU1.out⟩, rfl⟩); intro K hK; go_simp; (with_reducible refine hK _ ?_); clear hK K)
  ((refine takeQ (i := 18) (by rfl) (by kernel_rfl) (by kernel_rfl) (by kernel_rfl) ?_ ?_ ?_); (focus first | exact fun _ _ _ _ h => h | exact fun _ _ _ _ h => HPQ.out _ _ _ _ (by rfl) h); (focus exact ⟨⟨_, HU1.out⟩, rfl⟩); intro K hK; go_simp; (with_reducible refine hK _ ?_); clear hK K)
  ((refine takeQ (i := 19) (by rfl) (by kernel_rfl) (by kernel_rfl) (by kernel_rfl) ?_ ?_ ?_); (focus first | exact fun _ _ _ _ h => h | exact fun _ _ _ _ h => HPQ.out _ _ _ _ (by rfl) h); (focus exact ⟨⟨_, HU1.out⟩, rfl⟩); intro K hK; go_simp; (with_reducible refine hK _ ?_); clear hK K)
  ((refine takeQ (i := 20) (by rfl) (by kernel_rfl) (by kernel_rfl) (by kernel_rfl) ?_ ?_ ?_); (focus first | exact fun _ _ _ _ h => h | exact fun _ _ _ _ h => HPQ.out _ _ _ _ (by rfl) h); (focus exact ⟨⟨_, HU1.out⟩, rfl⟩); intro K hK; go_simp; (with_reducible refine hK _ ?_); clear hK K)
  ((refine takeQ (i := 21) (by rfl) (by kernel_rfl) (by kernel_rfl) (by kernel_rfl) ?_ ?_ ?_); (focus first | exact fun _ _ _ _ h => h | exact fun _ _ _ _ h => HPQ.out _ _ _ _ (by rfl) h); (focus exact ⟨⟨_, HU1.out⟩, rfl⟩); intro K hK; go_simp; (with_reducible refine hK _ ?_); clear hK K)
  ((refine takeQ (i := 22) (by rfl) (by kernel_rfl) (by kernel_rfl) (by kernel_rfl) ?_ ?_ ?_); (focus first | exact fun _ _ _ _ h => h | exact fun _ _ _ _ h => HPQ.out _ _ _ _ (by rfl) h); (focus exact ⟨⟨_, HU1.out⟩, rfl⟩); intro K hK; go_simp; (with_reducible refine hK _ ?_); clear hK K)
  ((refine takeQ (i := 23) (by rfl) (by kernel_rfl) (by kernel_rfl) (by kernel_rfl) ?_ ?_ ?_); (focus first | exact fun _ _ _ _ h => h | exact fun _ _ _ _ h => HPQ.out _ _ _ _ (by rfl) h); (focus exact ⟨⟨_, HU1.out⟩, rfl⟩); intro K hK; go_simp; (with_reducible refine hK _ ?_); clear hK K)
  ((refine takeQ (i := 24) (by rfl) (by kernel_rfl) (by kernel_rfl) (by kernel_rfl) ?_ ?_ ?_); (focus first | exact fun _ _ _ _ h => h | exact fun _ _ _ _ h => HPQ.out _ _ _ _ (by rfl) h); (focus exact ⟨⟨_, HU1.out⟩, rfl⟩); intro K hK; go_simp; (with_reducible refine hK _ ?_); clear hK K)
  ((refine takeQ (i := 25) (by rfl) (by kernel_rfl) (by kernel_rfl) (by kernel_rfl) ?_ ?_ ?_); (focus first | exact fun _ _ _ _ h => h | exact fun _ _ _ _ h => HPQ.out _ _ _ _ (by rfl) h); (focus exact ⟨⟨_, HU1.out⟩, rfl⟩); intro K hK; go_simp; (with_reducible refine hK _ ?_); clear hK K)
  ((refine takeQ (i := 26) (by rfl) (by kernel_rfl) (by kernel_rfl) (by kernel_rfl) ?_ ?_ ?_); (focus first | exact fun _ _ _ _ h => h | exact fun _ _ _ _ h => HPQ.out _ _ _ _ (by rfl) h); (focus exact ⟨⟨_, HU1.out⟩, rfl⟩); intro K hK; go_simp; (with_reducible refine hK _ ?_); clear hK K)
  ((refine takeQ (i := 27) (by rfl) (by kernel_rfl) (by kernel_rfl) (by kernel_rfl) ?_ ?_ ?_); (focus first | exact fun _ _ _ _ h => h | exact fun _ _ _ _ h => HPQ.out _ _ _ _ (by rfl) h); (focus exact ⟨⟨_, HU1.out⟩, rfl⟩); intro K hK; go_simp; (with_reducible refine hK _ ?_); clear hK K)
  ((refine takeQ (i := 28) (by rfl) (by kernel_rfl) (by kernel_rfl) (by kernel_rfl) ?_ ?_ ?_); (focus first | exact fun _ _ _ _ h => h | exact fun _ _ _ _ h => HPQ.out _ _ _ _ (by rfl) h); (focus exact ⟨⟨_, HU1.out⟩, rfl⟩); intro K hK; go_simp; (with_reducible refine hK _ ?_); clear hK K)
  refine wpAnyH_done (by kernel_rfl) ?_ _
  go_wp2
  go_ret
  exact RET.out _ _ (HV.out.trans (by first | rfl | (cases c3 <;> rfl) | (cases c2 <;> cases c3 <;> cases c4 <;> cases c5 <;> rfl))) (join_below HB1.out HU1.out)
end Go.Proofs.YthdfmbmbjpmlaaaDoor.Rn
end
section
set_option linter.unusedVariables false
set_option linter.unusedSimpArgs false
namespace Go.Proofs.YthdfmbmbjpmlaaaDoor.Rn
open Go Go.RowKit Go.Proofs.YthdfmbmbjpmlaaaDoorW.PrintWords Go.Proofs.YthdfmbmbjpmlaaaDoorW.PrintLast Go.Proofs.YthdfmbmbjpmlaaaDoorW.PrintMore
def orS (a b : Option Int) : Option Int := match a with | none => b | some c => some c
mutual
/-- what is wrong with a pattern's node, and those within it -/
def nodeR (T : List Tok) : Pt → Option Int
 | ⟨k, n, e, l⟩ => if shapedS ⟨k, n, e, l⟩ = true then orS (namesS T (if k = 3 then 1 else 0) [] n) (orS (namesS T 2 [] e) (nodeL T l)) else some 5
def nodeL (T : List Tok) : List Pt → Option Int
 | [] => none
 | x :: l => orS (nodeR T x) (nodeL T l)
end
def NodeC (T : List Tok) (x : Pt) : Prop := ∀ (bc : Nat) (AT : Option Addr) (ct : Nat) (AR : Option Addr) (R : List Rul) (cr : Nat) (wh : Int) (w0 W : World) (cs : List Value), Below w0.heap.size w0 W → CourtAt bc AT T ct AR R cr wh W → kTok.C W AT T.length T → kPt.K w0 x cs →
 Calls Tryd.prog 56 #[.pointer (some ⟨bc, 0, none⟩), .agg cs.toArray] W (CourtPost wh (nodeR T x) W)
set_option maxHeartbeats 2000000 in
set_option maxRecDepth 100000 in
theorem node_go (T : List Tok) (x : Pt) (hx : ∀ y, y ∈ x.f3 → NodeC T y) : NodeC T x := by
 intro bc AT ct AR R cr wh w0 W cs hB hc hT hK
 have HK := Aside0.mk hK
 obtain ⟨A1, p1, A2, p2, A3, p3, rfl, hp1, hC1, hp2, hC2, _, hC3⟩ := k37_open hK
 have e1 : nodeR T x = if shapedS x = true then orS (namesS T (if x.f0 = 3 then 1 else 0) [] x.f1) (orS (namesS T 2 [] x.f2) (nodeL T x.f3)) else some 5 := by
  cases x
  rfl
 have hlen : x.f3.length ≤ 9223372036854775807 := hC3.2.1
 obtain ⟨w1, hw1⟩ : ∃ w1, W.alloc (.cells #[.int .i64 x.f0, .slice A1 x.f1.length p1, .slice A2 x.f2.length p2, .slice A3 x.f3.length p3] 37) = w1 := ⟨_, rfl⟩
 have hnew : w1.heap[W.heap.size]? = some (.cells #[.int .i64 x.f0, .slice A1 x.f1.length p1, .slice A2 x.f2.length p2, .slice A3 x.f3.length p3] 37 (0, 0)) := by rw [← hw1]; exact blk_new _ _
 have HB1 : Aside0 (Below W.heap.size W w1) := ⟨hw1 ▸ below1 W _⟩
 have z0 : w1.cell? ⟨W.heap.size, 0, none⟩ = some (.int .i64 x.f0) := (blk_cell hnew 0).trans rfl
 have z1 : w1.cell? ⟨W.heap.size, 1, none⟩ = some (.slice A1 x.f1.length p1) := (blk_cell hnew 1).trans rfl
 have z2 : w1.cell? ⟨W.heap.size, 2, none⟩ = some (.slice A2 x.f2.length p2) := (blk_cell hnew 2).trans rfl
 have z3 : w1.cell? ⟨W.heap.size, 3, none⟩ = some (.slice A3 x.f3.length p3) := (blk_cell hnew 3).trans rfl
 have HN := Aside0.mk hnew
 have HC := Aside0.mk hc
 have HT := Aside0.mk hT
 have HB := Aside0.mk hB
 have HX := Aside0.mk hx
 have HE := Aside0.mk e1
 have HC1 := Aside0.mk (And.intro hC1 hp1)
 have HC2 := Aside0.mk (And.intro hC2 hp2)
 have HC3 := Aside0.mk hC3
 obtain ⟨res, hres⟩ : ∃ res, nodeR T x = res := ⟨_, rfl⟩
 have HR := Aside0.mk hres
 rw [hres]
 clear hK hnew hc hT hB hx e1 hC1 hp1 hC2 hp2 hC3 hres
 go_enter Tryd.func56, Tryd.ntmps56
 have HW : Aside0 (Below w0.heap.size w0 w1) := ⟨join_below HB.out HB1.out⟩
 go_wp2_with fail
 refine (shaped_any x w0 _ _ HW.out HK.out).mono ?_
 rintro e w2 ⟨rfl, hb⟩
 have HB2 := Aside0.mk hb
 clear hb z0 z1 z2 z3 hw1
 cases hsh : shapedS x
 · have HRE : Aside0 (res = some 5) := ⟨by rw [← HR.out, HE.out, hsh]; rfl⟩
   clear hsh
   go_wp2_with fail
   refine (must_no 5 (CourtAt.later HC.out (join_below HB1.out HB2.out))).mono ?_
   rintro e w3 ⟨rfl, hb⟩
   have HB3 := Aside0.mk (join_below HB1.out (join_below HB2.out hb))
   clear hb
   go_wp2
   exact ⟨rfl, by rw [HRE.out]; exact CourtPost.bad HB3.out⟩
 · have HRE : Aside0 (orS (namesS T (if x.f0 = 3 then 1 else 0) [] x.f1) (orS (namesS T 2 [] x.f2) (nodeL T x.f3)) = res) := ⟨by rw [← HR.out, HE.out, if_pos hsh]⟩
   clear hsh
   go_wp2_with fail
   refine (must_yes 5 (CourtAt.later HC.out (join_below HB1.out HB2.out))).mono ?_
   rintro e w3 ⟨rfl, hb⟩
   have HB3 := Aside0.mk (join_below HB2.out hb)
   have z0 : w3.cell? ⟨W.heap.size, 0, none⟩ = some (.int .i64 x.f0) := (blk_cell (blk_below HN.out HB3.out) 0).trans rfl
   have z1 : w3.cell? ⟨W.heap.size, 1, none⟩ = some (.slice A1 x.f1.length p1) := (blk_cell (blk_below HN.out HB3.out) 1).trans rfl
   clear hb HB2
   obtain ⟨kd, hkd⟩ : ∃ kd : Int, (if x.f0 = 3 then 1 else 0) = kd := ⟨_, rfl⟩
   have HKD := Aside0.mk hkd
   have h2 : (x.f0 == 3) = true ∧ kd = 1 ∨ (x.f0 == 3) = false ∧ kd = 0 := by
    by_cases c : x.f0 = 3
    · exact .inl ⟨beq_iff_eq.2 c, by rw [← hkd, if_pos c]⟩
    · exact .inr ⟨beq_eq_false_iff_ne.2 c, by rw [← hkd, if_neg c]⟩
   clear hkd
   rcases h2 with ⟨k3, rfl⟩ | ⟨k3, rfl⟩
   all_goals
    have HRE2 := Aside0.mk HRE.out
    rw [HKD.out] at HRE2
    clear HRE HKD
    go_wp2_with fail
    refine (names_any bc AT T ct AR R cr wh A1 x.f1 p1 _ _ (CourtAt.later HC.out (join_below HB1.out HB3.out)) (Kd.C_below HT.out (join_below HB1.out HB3.out)) (Kd.C_below HC1.out.1 (join_below HW.out HB3.out)) HC1.out.2).mono ?_
    rintro e w4 ⟨hb, he⟩
    have HB4 := Aside0.mk (join_below HB3.out hb)
    clear hb z0 z1 k3 HB3
    have HR1 := HRE2.out
    first
     | (obtain ⟨r1, hr1⟩ : ∃ r, namesS T 1 [] x.f1 = r := ⟨_, rfl⟩; rw [hr1] at he HR1)
     | (obtain ⟨r1, hr1⟩ : ∃ r, namesS T 0 [] x.f1 = r := ⟨_, rfl⟩; rw [hr1] at he HR1)
    have HR1' := Aside0.mk HR1
    clear hr1 HR1 HRE2
    cases r1 with
    | some c =>
     have he' : e = .panicked [{ v := faultV c wh, recovered := false }] := he
     subst he'
     have HQ : Aside0 (res = some c) := ⟨HR1'.out.symm⟩
     clear he
     go_wp2
     exact ⟨rfl, by rw [HQ.out]; exact CourtPost.bad (join_below HB1.out HB4.out)⟩
    | none =>
     have he' : e = .returned (.tuple #[]) := he
     subst he'
     have HQ : Aside0 (orS (namesS T 2 [] x.f2) (nodeL T x.f3) = res) := ⟨HR1'.out⟩
     have z2 : w4.cell? ⟨W.heap.size, 2, none⟩ = some (.slice A2 x.f2.length p2) := (blk_cell (blk_below HN.out HB4.out) 2).trans rfl
     clear he HR1'
     go_wp2_with fail
     refine (names_any bc AT T ct AR R cr wh A2 x.f2 p2 _ _ (CourtAt.later HC.out (join_below HB1.out HB4.out)) (Kd.C_below HT.out (join_below HB1.out HB4.out)) (Kd.C_below HC2.out.1 (join_below HW.out HB4.out)) HC2.out.2).mono ?_
     rintro e w5 ⟨hb, he⟩
     have HB5 := Aside0.mk (join_below HB4.out hb)
     clear hb z2 HB4
     obtain ⟨r2, hr2⟩ : ∃ r, namesS T 2 [] x.f2 = r := ⟨_, rfl⟩
     have HQ2 := HQ.out
     rw [hr2] at he HQ2
     have HQ2' := Aside0.mk HQ2
     clear hr2 HQ2 HQ
     cases r2 with
     | some c =>
      have he' : e = .panicked [{ v := faultV c wh, recovered := false }] := he
      subst he'
      have HQ : Aside0 (res = some c) := ⟨HQ2'.out.symm⟩
      clear he
      go_wp2
      exact ⟨rfl, by rw [HQ.out]; exact CourtPost.bad (join_below HB1.out HB5.out)⟩
     | none =>
      have he' : e = .returned (.tuple #[]) := he
      subst he'
      have HQ : Aside0 (nodeL T (x.f3.drop 0) = res) := ⟨HQ2'.out⟩
      have z3 : w5.cell? ⟨W.heap.size, 3, none⟩ = some (.slice A3 x.f3.length p3) := (blk_cell (blk_below HN.out HB5.out) 3).trans rfl
      clear he HQ2'
      go_wp2
      go_loopw [26] (fun i w' => ∃ k : Nat, i = .int .i64 k ∧ k ≤ x.f3.length ∧ Aside0 (nodeL T (x.f3.drop k) = res) ∧ Aside0 (Below w1.heap.size w1 w')) (fun i _ => x.f3.length - (intOf i).toNat)
      case atStart => exact ⟨0, rfl, Nat.zero_le _, HQ, HB5⟩
      case round =>
       clear z3
       obtain ⟨k, rfl, hkl, HI, HBI⟩ := hrel
       by_cases hlt : k < x.f3.length
       · obtain ⟨g, o, rfl, _, hcell⟩ := row_cells HC3.out (by omega) (by decide)
         obtain ⟨y, hy⟩ : ∃ y, x.f3[k]? = some y := ⟨_, List.getElem?_eq_getElem hlt⟩
         obtain ⟨cs, _, hKy, hcc⟩ := hcell k y hy
         have HKy := Aside0.mk hKy
         obtain ⟨D1, d1, D2, d2, D3, d3, rfl, _, _, _, _, _, _⟩ := k37_open hKy
         have v0 := cell_after (join_below HW.out HBI.out) (hcc 0 (.int .i64 y.f0) rfl)
         have v1 := cell_after (join_below HW.out HBI.out) (hcc 1 (.slice D1 y.f1.length d1) rfl)
         have v2 := cell_after (join_below HW.out HBI.out) (hcc 2 (.slice D2 y.f2.length d2) rfl)
         have v3 := cell_after (join_below HW.out HBI.out) (hcc 3 (.slice D3 y.f3.length d3) rfl)
         rw [Nat.add_zero] at v0
         simp only [show kPt.sz = 4 from rfl] at v0 v1 v2 v3
         have hdk : x.f3.drop k = y :: x.f3.drop (k + 1) := by
          rw [List.drop_eq_getElem_cons hlt]
          rw [List.getElem?_eq_getElem hlt] at hy
          rw [Option.some.inj hy]
         have hI2 := HI.out
         rw [hdk, nodeL] at hI2
         have HI2 := Aside0.mk hI2
         have HY := Aside0.mk (HX.out y (List.mem_of_getElem? hy))
         clear hcell hcc hKy hy hdk hI2 HI
         go_wp2_with fail
         refine (HY.out bc AT ct AR R cr wh w0 _ _ (join_below HW.out (below_alloc HBI.out _)) (CourtAt.later HC.out (join_below HB1.out (below_alloc HBI.out _))) (Kd.C_below HT.out (join_below HB1.out (below_alloc HBI.out _))) HKy.out).mono ?_
         rintro e w6 ⟨hb, he⟩
         have HB6 := Aside0.mk (join_below (below_alloc HBI.out _) hb)
         clear hb v0 v1 v2 v3
         obtain ⟨r3, hr3⟩ : ∃ r, nodeR T y = r := ⟨_, rfl⟩
         have HI3 := HI2.out
         rw [hr3] at he HI3
         have HI4 := Aside0.mk HI3
         clear hr3 HI3 HI2
         cases r3 with
         | some c =>
          have he' : e = .panicked [{ v := faultV c wh, recovered := false }] := he
          subst he'
          have HQ : Aside0 (res = some c) := ⟨HI4.out.symm⟩
          clear he
          go_wp2
          exact ⟨rfl, by rw [HQ.out]; exact CourtPost.bad (join_below HB1.out HB6.out)⟩
         | none =>
          have he' : e = .returned (.tuple #[]) := he
          subst he'
          have HQ : Aside0 (nodeL T (x.f3.drop (k + 1)) = res) := ⟨HI4.out⟩
          clear he HI4
          go_wp2
          go_roundw
          case rel => exact ⟨k + 1, by go_num, by omega, HQ, HB6⟩
          case measure => simp [intOf]; omega
       · have e : k = x.f3.length := by omega
         have HQ : Aside0 (res = none) := ⟨by rw [← HI.out, e, List.drop_length]; rfl⟩
         clear e
         go_wp2
         first | go_end0 | refine bodyPost_ret (results_none rfl _ _ _) rfl ?_
         rw [HQ.out]
         exact CourtPost.ok (join_below HB1.out HBI.out)
end Go.Proofs.YthdfmbmbjpmlaaaDoor.Rn
end
section
set_option linter.unusedVariables false
set_option linter.unusedSimpArgs false
namespace Go.Proofs.YthdfmbmbjpmlaaaDoor.Rn
open Go Go.RowKit Go.Proofs.YthdfmbmbjpmlaaaDoorW.PrintWords Go.Proofs.YthdfmbmbjpmlaaaDoorW.PrintLast Go.Proofs.YthdfmbmbjpmlaaaDoorW.PrintMore
theorem node_all (T : List Tok) : ∀ (N : Nat) (x : Pt), SizeOf.sizeOf x < N → NodeC T x
 | 0, x, h => absurd h (Nat.not_lt_zero _)
 | N + 1, x, h => node_go T x (fun y hy => node_all T N y (by
     have h1 := List.sizeOf_lt_of_mem hy
     have h2 : SizeOf.sizeOf x.f3 < SizeOf.sizeOf x := by
      cases x
      simp
      omega
     omega))
def patS (T : List Tok) (x : Pt) : Option Int := if fewS x = true then nodeR T x else some 6
set_option maxHeartbeats 2000000 in
set_option maxRecDepth 100000 in
theorem pattern_any (T : List Tok) (x : Pt) (bc : Nat) (AT : Option Addr) (ct : Nat) (AR : Option Addr) (R : List Rul) (cr : Nat) (wh : Int) (w0 W : World) (cs : List Value) (hB : Below w0.heap.size w0 W) (hc : CourtAt bc AT T ct AR R cr wh W) (hT : kTok.C W AT T.length T) (hK : kPt.K w0 x cs) :
 Calls Tryd.prog 46 #[.pointer (some ⟨bc, 0, none⟩), .agg cs.toArray] W (CourtPost wh (patS T x) W) := by
 have HK := Aside0.mk hK
 obtain ⟨A1, p1, A2, p2, A3, p3, rfl, _, _, _, _, _, _⟩ := k37_open hK
 obtain ⟨w1, hw1⟩ : ∃ w1, W.alloc (.cells #[.int .i64 x.f0, .slice A1 x.f1.length p1, .slice A2 x.f2.length p2, .slice A3 x.f3.length p3] 37) = w1 := ⟨_, rfl⟩
 have hnew : w1.heap[W.heap.size]? = some (.cells #[.int .i64 x.f0, .slice A1 x.f1.length p1, .slice A2 x.f2.length p2, .slice A3 x.f3.length p3] 37 (0, 0)) := by rw [← hw1]; exact blk_new _ _
 have HB1 : Aside0 (Below W.heap.size W w1) := ⟨hw1 ▸ below1 W _⟩
 have z0 : w1.cell? ⟨W.heap.size, 0, none⟩ = some (.int .i64 x.f0) := (blk_cell hnew 0).trans rfl
 have z1 : w1.cell? ⟨W.heap.size, 1, none⟩ = some (.slice A1 x.f1.length p1) := (blk_cell hnew 1).trans rfl
 have z2 : w1.cell? ⟨W.heap.size, 2, none⟩ = some (.slice A2 x.f2.length p2) := (blk_cell hnew 2).trans rfl
 have z3 : w1.cell? ⟨W.heap.size, 3, none⟩ = some (.slice A3 x.f3.length p3) := (blk_cell hnew 3).trans rfl
 have HN := Aside0.mk hnew
 have HC := Aside0.mk hc
 have HT := Aside0.mk hT
 have HB : Aside0 (Below w0.heap.size w0 w1) := ⟨join_below hB HB1.out⟩
 clear hK hnew hc hT hB
 go_enter Tryd.func46, Tryd.ntmps46
 go_wp2_with fail
 refine (few_any x w0 _ _ HB.out HK.out).mono ?_
 rintro e w2 ⟨rfl, hb⟩
 have HB2 := Aside0.mk (join_below HB1.out hb)
 have HW2 := Aside0.mk (join_below HB.out hb)
 have HN2 := Aside0.mk (blk_below HN.out hb)
 clear hb z0 z1 z2 z3 hw1
 obtain ⟨b, hb⟩ : ∃ b, fewS x = b := ⟨_, rfl⟩
 rw [hb]
 have HF := Aside0.mk hb
 clear hb
 cases b
 · go_wp2_with fail
   refine (must_no 6 (CourtAt.later HC.out HB2.out)).mono ?_
   rintro e w3 ⟨rfl, hb⟩
   have HB3 := Aside0.mk (join_below HB2.out hb)
   clear hb
   go_wp2
   exact ⟨rfl, by rw [patS, if_neg (by rw [HF.out]; decide)]; exact CourtPost.bad HB3.out⟩
 · go_wp2_with fail
   refine (must_yes 6 (CourtAt.later HC.out HB2.out)).mono ?_
   rintro e w3 ⟨rfl, hb⟩
   have HB3 := Aside0.mk (join_below HB2.out hb)
   have HW3 := Aside0.mk (join_below HW2.out hb)
   have hnew := blk_below HN2.out hb
   have z0 : w3.cell? ⟨W.heap.size, 0, none⟩ = some (.int .i64 x.f0) := (blk_cell hnew 0).trans rfl
   have z1 : w3.cell? ⟨W.heap.size, 1, none⟩ = some (.slice A1 x.f1.length p1) := (blk_cell hnew 1).trans rfl
   have z2 : w3.cell? ⟨W.heap.size, 2, none⟩ = some (.slice A2 x.f2.length p2) := (blk_cell hnew 2).trans rfl
   have z3 : w3.cell? ⟨W.heap.size, 3, none⟩ = some (.slice A3 x.f3.length p3) := (blk_cell hnew 3).trans rfl
   clear hb hnew HB2 HW2 HN2
   go_wp2_with fail
   refine (node_all T _ x (Nat.lt_succ_self _) bc AT ct AR R cr wh w0 _ _ HW3.out (CourtAt.later HC.out HB3.out) (Kd.C_below HT.out HB3.out) HK.out).mono ?_
   rintro e w4 ⟨hb, he⟩
   have HB4 := Aside0.mk (join_below HB3.out hb)
   clear hb z0 z1 z2 z3
   have HP : Aside0 (patS T x = nodeR T x) := ⟨by rw [patS, if_pos HF.out]⟩
   obtain ⟨r, hr⟩ : ∃ r, nodeR T x = r := ⟨_, rfl⟩
   rw [hr] at he
   have HR : Aside0 (patS T x = r) := ⟨by rw [HP.out, hr]⟩
   clear hr HP HF
   cases r with
   | some c =>
    have he' : e = .panicked [{ v := faultV c wh, recovered := false }] := he
    subst he'
    clear he
    go_wp2
    exact ⟨rfl, by rw [HR.out]; exact CourtPost.bad HB4.out⟩
   | none =>
    have he' : e = .returned (.tuple #[]) := he
    subst he'
    clear he
    go_wp2
    first | go_end0 | refine bodyPost_ret (results_none rfl _ _ _) rfl ?_
    rw [HR.out]
    exact CourtPost.ok HB4.out
abbrev Stp := S39
abbrev kStp := k39
def stepsS (T : List Tok) (free : Bool) : Nat → List Stp → Option Int
 | _, [] => none
 | i, s :: l => if (decide (0 < s.f0.length) == (decide (0 < i) || free)) = true then orS (namesS T 1 [] s.f0) (orS (patS T s.f1) (stepsS T free (i + 1) l)) else some 5
def ruleS (T : List Tok) (x : Rul) : Option Int := orS (classS x.f0) (if 1 ≤ x.f2.length ∧ x.f2.length ≤ 4 then stepsS T x.f1 0 x.f2 else some 6)
set_option maxHeartbeats 4000000 in
set_option maxRecDepth 100000 in
theorem rule_any (T : List Tok) (x : Rul) (bc : Nat) (AT : Option Addr) (ct : Nat) (AR : Option Addr) (R : List Rul) (cr : Nat) (wh : Int) (w0 W : World) (cs : List Value) (hB : Below w0.heap.size w0 W) (hc : CourtAt bc AT T ct AR R cr wh W) (hT : kTok.C W AT T.length T) (hK : kRul.K w0 x cs) :
 Calls Tryd.prog 31 #[.pointer (some ⟨bc, 0, none⟩), .agg cs.toArray] W (CourtPost wh (ruleS T x) W) := by
 obtain ⟨A2, p2, rfl, _, hC2⟩ := k32_open hK
 have hlen : x.f2.length ≤ 9223372036854775807 := hC2.2.1
 obtain ⟨w1, hw1⟩ : ∃ w1, W.alloc (.cells #[.int .i64 x.f0, .bool x.f1, .slice A2 x.f2.length p2] 32) = w1 := ⟨_, rfl⟩
 have hnew : w1.heap[W.heap.size]? = some (.cells #[.int .i64 x.f0, .bool x.f1, .slice A2 x.f2.length p2] 32 (0, 0)) := by rw [← hw1]; exact blk_new _ _
 have HB1 : Aside0 (Below W.heap.size W w1) := ⟨hw1 ▸ below1 W _⟩
 have z0 : w1.cell? ⟨W.heap.size, 0, none⟩ = some (.int .i64 x.f0) := (blk_cell hnew 0).trans rfl
 have HN := Aside0.mk hnew
 have HC := Aside0.mk hc
 have HT := Aside0.mk hT
 have HW : Aside0 (Below w0.heap.size w0 w1) := ⟨join_below hB HB1.out⟩
 have HS := Aside0.mk hC2
 obtain ⟨res, hres⟩ : ∃ res, ruleS T x = res := ⟨_, rfl⟩
 have HR0 := Aside0.mk (show orS (classS x.f0) (if 1 ≤ x.f2.length ∧ x.f2.length ≤ 4 then stepsS T x.f1 0 x.f2 else some 6) = res from hres)
 rw [hres]
 clear hK hnew hc hT hB hC2 hres
 go_enter Tryd.func31, Tryd.ntmps31
 go_wp2_with fail
 refine (class_any bc AT T ct AR R cr wh x.f0 _ (CourtAt.later HC.out HB1.out)).mono ?_
 rintro e w2 ⟨hb, he⟩
 have HB2 := Aside0.mk (show Below w1.heap.size w1 w2 from hb)
 clear hb z0 hw1
 have hR := HR0.out
 generalize classS x.f0 = r0 at he hR
 have HR := Aside0.mk hR
 clear hR HR0
 cases r0 with
 | some c =>
  have he' : e = .panicked [{ v := faultV c wh, recovered := false }] := he
  subst he'
  clear he
  go_wp2
  exact ⟨rfl, by rw [← HR.out]; exact CourtPost.bad (join_below HB1.out HB2.out)⟩
 | none =>
  have he' : e = .returned (.tuple #[]) := he
  subst he'
  clear he
  have HR1 := Aside0.mk (show (if 1 ≤ x.f2.length ∧ x.f2.length ≤ 4 then stepsS T x.f1 0 x.f2 else some 6) = res from HR.out)
  clear HR
  have z2 : w2.cell? ⟨W.heap.size, 2, none⟩ = some (.slice A2 x.f2.length p2) := (blk_cell (blk_below HN.out HB2.out) 2).trans rfl
  by_cases c1 : 1 ≤ x.f2.length ∧ x.f2.length ≤ 4
  case neg =>
   have HR2 := Aside0.mk HR1.out
   rw [if_neg c1] at HR2
   clear HR1
   have hcs : x.f2.length = 0 ∨ (1 ≤ (x.f2.length : Int) ∧ ¬ ((x.f2.length : Int) ≤ 4)) := by omega
   rcases hcs with h0 | ⟨h1, h2⟩
   · have d1 : decide (1 ≤ (x.f2.length : Int)) = false := decide_eq_false (by omega)
     clear h0 c1
     go_wp2_with fail
     refine (must_no 6 (CourtAt.later HC.out (join_below HB1.out HB2.out))).mono ?_
     rintro e w3 ⟨rfl, hb⟩
     have HB3 := Aside0.mk (join_below HB1.out (join_below HB2.out hb))
     clear hb z2
     go_wp2
     exact ⟨rfl, by rw [← HR2.out]; exact CourtPost.bad HB3.out⟩
   · have d2 : decide ((x.f2.length : Int) ≤ 4) = false := decide_eq_false h2
     clear c1
     go_wp2_with fail
     refine (must_no 6 (CourtAt.later HC.out (join_below HB1.out HB2.out))).mono ?_
     rintro e w3 ⟨rfl, hb⟩
     have HB3 := Aside0.mk (join_below HB1.out (join_below HB2.out hb))
     clear hb z2
     go_wp2
     exact ⟨rfl, by rw [← HR2.out]; exact CourtPost.bad HB3.out⟩
  case pos =>
   have HR2 := Aside0.mk HR1.out
   rw [if_pos c1] at HR2
   clear HR1
   obtain ⟨g1, g2⟩ := c1
   have h1 : 1 ≤ (x.f2.length : Int) := by omega
   have h2 : (x.f2.length : Int) ≤ 4 := by omega
   go_wp2_with fail
   refine (must_yes 6 (CourtAt.later HC.out (join_below HB1.out HB2.out))).mono ?_
   rintro e w3 ⟨rfl, hb⟩
   have HB3 := Aside0.mk (join_below HB2.out hb)
   clear hb z2 HB2
   have z2 : w3.cell? ⟨W.heap.size, 2, none⟩ = some (.slice A2 x.f2.length p2) := (blk_cell (blk_below HN.out HB3.out) 2).trans rfl
   go_wp2
   go_loopw [25] (fun i w' => ∃ k : Nat, i = .int .i64 k ∧ k ≤ x.f2.length ∧ Aside0 (stepsS T x.f1 k (x.f2.drop k) = res) ∧ Aside0 (Below w1.heap.size w1 w')) (fun i _ => x.f2.length - (intOf i).toNat)
   case atStart => exact ⟨0, rfl, Nat.zero_le _, HR2, HB3⟩
   case round =>
    clear z2
    obtain ⟨k, rfl, hkl, HI, HBI⟩ := hrel
    by_cases hlt : k < x.f2.length
    · obtain ⟨g, o, rfl, hgl, hcell⟩ := row_cells HS.out (by omega) (by decide)
      obtain ⟨y, hy⟩ : ∃ y, x.f2[k]? = some y := ⟨_, List.getElem?_eq_getElem hlt⟩
      obtain ⟨cs, _, hKy, hcc⟩ := hcell k y hy
      obtain ⟨D0, d0, D2, d2, D3, d3, D4, d4, rfl, hd0, hD0, q2, Q2, q3, Q3, q4, Q4⟩ := k39_open hKy
      have HKy := Aside0.mk (kPt.K_below (Below.refl w0.heap.size w0) (k37_mk w0 y.f1 q2 Q2 q3 Q3 q4 Q4))
      have v0 := cell_after (join_below HW.out HBI.out) (hcc 0 (.slice D0 y.f0.length d0) rfl)
      have v1 := cell_after (join_below HW.out HBI.out) (hcc 1 (.int .i64 y.f1.f0) rfl)
      have v2 := cell_after (join_below HW.out HBI.out) (hcc 2 (.slice D2 y.f1.f1.length d2) rfl)
      have v3 := cell_after (join_below HW.out HBI.out) (hcc 3 (.slice D3 y.f1.f2.length d3) rfl)
      have v4 := cell_after (join_below HW.out HBI.out) (hcc 4 (.slice D4 y.f1.f3.length d4) rfl)
      rw [Nat.add_zero] at v0
      simp only [show kStp.sz = 5 from rfl] at v0 v1 v2 v3 v4
      have hdk : x.f2.drop k = y :: x.f2.drop (k + 1) := by
       rw [List.drop_eq_getElem_cons hlt]
       rw [List.getElem?_eq_getElem hlt] at hy
       rw [Option.some.inj hy]
      have hI2 := HI.out
      rw [hdk, stepsS] at hI2
      obtain ⟨wn, hwn⟩ : ∃ wn, wr.alloc (.cells #[.slice D0 y.f0.length d0, .int .i64 y.f1.f0, .slice D2 y.f1.f1.length d2, .slice D3 y.f1.f2.length d3, .slice D4 y.f1.f3.length d4] 39) = wn := ⟨_, rfl⟩
      have hnew : wn.heap[wr.heap.size]? = some (.cells #[.slice D0 y.f0.length d0, .int .i64 y.f1.f0, .slice D2 y.f1.f1.length d2, .slice D3 y.f1.f2.length d3, .slice D4 y.f1.f3.length d4] 39 (0, 0)) := by rw [← hwn]; exact blk_new _ _
      have HBn : Aside0 (Below w1.heap.size w1 wn) := ⟨hwn ▸ below_alloc HBI.out _⟩
      have zf : wn.cell? ⟨W.heap.size, 1, none⟩ = some (.bool x.f1) := (blk_cell (blk_below HN.out HBn.out) 1).trans rfl
      have y0 : wn.cell? ⟨wr.heap.size, 0, none⟩ = some (.slice D0 y.f0.length d0) := (blk_cell hnew 0).trans rfl
      have HNn := Aside0.mk hnew
      have HD0 := Aside0.mk (And.intro hD0 hd0)
      have hcase : (0 < k ∧ (decide (0 < k) || x.f1) = true) ∨ (¬ 0 < k ∧ (decide (0 < k) || x.f1) = x.f1) := by
       by_cases c : 0 < k
       · exact .inl ⟨c, by rw [decide_eq_true c]; rfl⟩
       · exact .inr ⟨c, by rw [decide_eq_false c]; rfl⟩
      obtain ⟨q, hq⟩ : ∃ q, (decide (0 < k) || x.f1) = q := ⟨_, rfl⟩
      rw [hq] at hI2 hcase
      have HI2 := Aside0.mk hI2
      clear hcell hcc hKy hy hdk hI2 HI hnew hd0 hD0 q2 Q2 q3 Q3 q4 Q4 hq
      rcases hcase with ⟨hk0, rfl⟩ | ⟨hk0, rfl⟩
      all_goals
       go_wp2_with fail
       refine (must_any bc AT T ct AR R cr wh _ 5 _ (CourtAt.later HC.out (join_below HB1.out HBn.out))).mono ?_
       rintro e w4 ⟨hb, he⟩
       have HB4 := Aside0.mk (show Below wn.heap.size wn w4 from hb)
       clear hb v0 v1 v2 v3 v4 zf y0 hk0 hwn
       have hI3 := HI2.out
       clear HI2
       have hz2 : ∃ z : Bool, (if z = true then orS (namesS T 1 [] y.f0) (orS (patS T y.f1) (stepsS T x.f1 (k + 1) (x.f2.drop (k + 1)))) else some 5) = res ∧ e = match (if z = true then none else some 5 : Option Int) with | none => .returned (.tuple #[]) | some c => .panicked [{ v := faultV c wh, recovered := false }] := by
        refine ⟨_, hI3, ?_⟩
        rw [he]
        clear he hI3
        cases decide (0 < y.f0.length) <;> cases x.f1 <;> rfl
       clear he hI3
       obtain ⟨z, hI3, he⟩ := hz2
       have HI3 := Aside0.mk hI3
       clear hI3
       cases z with
       | false =>
        have he' : e = .panicked [{ v := faultV 5 wh, recovered := false }] := he
        subst he'
        have HQ : Aside0 (res = some 5) := ⟨HI3.out.symm⟩
        clear he
        go_wp2
        exact ⟨rfl, by rw [HQ.out]; exact CourtPost.bad (join_below HB1.out (join_below HBn.out HB4.out))⟩
       | true =>
        have he' : e = .returned (.tuple #[]) := he
        subst he'
        have HQ : Aside0 (orS (namesS T 1 [] y.f0) (orS (patS T y.f1) (stepsS T x.f1 (k + 1) (x.f2.drop (k + 1)))) = res) := ⟨HI3.out⟩
        clear he HI3
        have y0 : w4.cell? ⟨wr.heap.size, 0, none⟩ = some (.slice D0 y.f0.length d0) := (blk_cell (blk_below HNn.out HB4.out) 0).trans rfl
        go_wp2_with fail
        refine (names_any bc AT T ct AR R cr wh D0 y.f0 d0 _ _ (CourtAt.later HC.out (join_below HB1.out (join_below HBn.out HB4.out))) (Kd.C_below HT.out (join_below HB1.out (join_below HBn.out HB4.out))) (Kd.C_below HD0.out.1 (join_below HW.out (join_below HBn.out HB4.out))) HD0.out.2).mono ?_
        rintro e w5 ⟨hb, he⟩
        have HB5 := Aside0.mk (join_below HB4.out hb)
        clear hb y0 HB4
        have hQ := HQ.out
        clear HQ
        generalize namesS T 1 [] y.f0 = r1 at he hQ
        have HQ := Aside0.mk hQ
        clear hQ
        cases r1 with
        | some c =>
         have he' : e = .panicked [{ v := faultV c wh, recovered := false }] := he
         subst he'
         have HQ2 : Aside0 (res = some c) := ⟨HQ.out.symm⟩
         clear he
         go_wp2
         exact ⟨rfl, by rw [HQ2.out]; exact CourtPost.bad (join_below HB1.out (join_below HBn.out HB5.out))⟩
        | none =>
         have he' : e = .returned (.tuple #[]) := he
         subst he'
         have HQ2 : Aside0 (orS (patS T y.f1) (stepsS T x.f1 (k + 1) (x.f2.drop (k + 1))) = res) := ⟨HQ.out⟩
         clear he HQ
         have hnew := blk_below HNn.out HB5.out
         have y1 : w5.cell? ⟨wr.heap.size, 1, none⟩ = some (.int .i64 y.f1.f0) := (blk_cell hnew 1).trans rfl
         have y2 : w5.cell? ⟨wr.heap.size, 2, none⟩ = some (.slice D2 y.f1.f1.length d2) := (blk_cell hnew 2).trans rfl
         have y3 : w5.cell? ⟨wr.heap.size, 3, none⟩ = some (.slice D3 y.f1.f2.length d3) := (blk_cell hnew 3).trans rfl
         have y4 : w5.cell? ⟨wr.heap.size, 4, none⟩ = some (.slice D4 y.f1.f3.length d4) := (blk_cell hnew 4).trans rfl
         clear hnew
         go_wp2_with fail
         refine (pattern_any T y.f1 bc AT ct AR R cr wh w0 _ _ (join_below HW.out (join_below HBn.out HB5.out)) (CourtAt.later HC.out (join_below HB1.out (join_below HBn.out HB5.out))) (Kd.C_below HT.out (join_below HB1.out (join_below HBn.out HB5.out))) HKy.out).mono ?_
         rintro e w6 ⟨hb, he⟩
         have HB6 := Aside0.mk (join_below HB5.out hb)
         clear hb y1 y2 y3 y4
         have hQ := HQ2.out
         clear HQ2
         generalize patS T y.f1 = r2 at he hQ
         have HQ := Aside0.mk hQ
         clear hQ
         cases r2 with
         | some c =>
          have he' : e = .panicked [{ v := faultV c wh, recovered := false }] := he
          subst he'
          have HQ2 : Aside0 (res = some c) := ⟨HQ.out.symm⟩
          clear he
          go_wp2
          exact ⟨rfl, by rw [HQ2.out]; exact CourtPost.bad (join_below HB1.out (join_below HBn.out HB6.out))⟩
         | none =>
          have he' : e = .returned (.tuple #[]) := he
          subst he'
          have HQ2 : Aside0 (stepsS T x.f1 (k + 1) (x.f2.drop (k + 1)) = res) := ⟨HQ.out⟩
          clear he HQ
          go_wp2
          go_roundw
          case rel => exact ⟨k + 1, by go_num, by omega, HQ2, ⟨join_below HBn.out HB6.out⟩⟩
          case measure => simp [intOf]; omega
    · have e : k = x.f2.length := by omega
      have HQ : Aside0 (res = none) := ⟨by rw [← HI.out, e, List.drop_length]; rfl⟩
      clear e
      go_wp2
      first | go_end0 | refine bodyPost_ret (results_none rfl _ _ _) rfl ?_
      rw [HQ.out]
      exact CourtPost.ok (join_below HB1.out HBI.out)
end Go.Proofs.YthdfmbmbjpmlaaaDoor.Rn
end
section
set_option linter.unusedVariables false
set_option linter.unusedSimpArgs false
namespace Go.Proofs.YthdfmbmbjpmlaaaDoor.Rn
open Go Go.RowKit Go.Proofs.YthdfmbmbjpmlaaaDoorW.PrintWords Go.Proofs.YthdfmbmbjpmlaaaDoorW.PrintLast Go.Proofs.YthdfmbmbjpmlaaaDoorW.PrintMore
def ownL : List ByteArray := [⟨#[116, 111, 107]⟩, ⟨#[114, 117, 108, 101]⟩, ⟨#[105, 110, 116]⟩, ⟨#[99, 97, 108, 108]⟩, ⟨#[114, 101, 116]⟩, ⟨#[102, 114, 101, 101]⟩]
def OwnAt (W : World) : Prop := Kd.string.C W (some ⟨0, 0, none⟩) 6 ownL
theorem OwnAt.below {W W' : World} {b : Nat} (h : OwnAt W) (hb : Below b W W') (hs : W.heap.size ≤ b) : OwnAt W' := Kd.C_below h (hb.mono hs)
def letterS (i : Nat) (c : UInt8) : Bool := decide (97 ≤ c.toNat ∧ c.toNat ≤ 122) || decide (0 < i ∧ 48 ≤ c.toNat ∧ c.toNat ≤ 57)
def lettersS : Nat → List UInt8 → Bool
 | _, [] => true
 | i, c :: l => letterS i c && lettersS (i + 1) l
def nameS (s : ByteArray) : Bool := lettersS 0 s.toList && (decide (1 ≤ s.size ∧ s.size ≤ 12) && !hasT ownL s)
theorem toList_length (s : ByteArray) : s.toList.length = s.size := by
 rw [ByteArray.toList_eq]
 rfl
theorem toList_get (s : ByteArray) (k : Nat) (h : k < s.size) : s.toList[k]? = some s[k] := by
 rw [ByteArray.toList_eq]
 exact List.getElem?_eq_getElem (h := h)
set_option maxHeartbeats 2000000 in
set_option maxRecDepth 100000 in
theorem name_any (s : ByteArray) (hs : s.size ≤ 9223372036854775807) (W : World) (hO : OwnAt W) :
 Calls Tryd.prog 19 #[.string s] W fun e W' => e = .returned (.bool (nameS s)) ∧ Below W.heap.size W W' := by
 obtain ⟨res, hres⟩ : ∃ r, nameS s = r := ⟨_, rfl⟩
 rw [hres]
 have HR : Aside0 ((lettersS 0 (s.toList.drop 0) && (decide (1 ≤ s.size ∧ s.size ≤ 12) && !hasT ownL s)) = res) := ⟨hres⟩
 have HO := Aside0.mk hO
 clear hO hres
 go_enter Tryd.func19, Tryd.ntmps19
 go_wp2
 go_loopw [7] (fun i w' => ∃ k : Nat, i = .int .i64 k ∧ k ≤ s.size ∧ Aside0 ((lettersS k (s.toList.drop k) && (decide (1 ≤ s.size ∧ s.size ≤ 12) && !hasT ownL s)) = res) ∧ w' = W) (fun i _ => s.size - (intOf i).toNat)
 case atStart => exact ⟨0, rfl, Nat.zero_le _, HR, rfl⟩
 case round =>
  obtain ⟨k, rfl, hkl, HI, rfl⟩ := hrel
  by_cases hlt : k < s.size
  · have hdk : s.toList.drop k = s[k] :: s.toList.drop (k + 1) := by
     have h := toList_get s k hlt
     have hl : k < s.toList.length := by rw [toList_length]; exact hlt
     rw [List.drop_eq_getElem_cons hl]
     rw [List.getElem?_eq_getElem hl] at h
     rw [Option.some.inj h]
    have hI := HI.out
    rw [hdk, lettersS] at hI
    have HI2 := Aside0.mk hI
    clear hI HI hdk
    obtain ⟨c, hc⟩ : ∃ c : Nat, (s[k]).toNat = c := ⟨_, rfl⟩
    have hq : (((97 : Int) ≤ c ∧ (c : Int) ≤ 122) ∨ ((c : Int) < 97 ∧ 0 < k ∧ (48 : Int) ≤ c ∧ (c : Int) ≤ 57)) ∨ (((97 : Int) ≤ c ∧ (122 : Int) < c ∧ ¬ 0 < k) ∨ ((97 : Int) ≤ c ∧ (122 : Int) < c ∧ 0 < k) ∨ ((c : Int) < 97 ∧ ¬ 0 < k) ∨ ((c : Int) < 97 ∧ 0 < k ∧ (c : Int) < 48) ∨ ((c : Int) < 97 ∧ 0 < k ∧ (48 : Int) ≤ c ∧ (57 : Int) < c)) := by omega
    rcases hq with hq | hq
    · have hI := HI2.out
      rw [show letterS k s[k] = true from by simp only [letterS, hc, Bool.or_eq_true, decide_eq_true_eq]; omega, Bool.true_and] at hI
      have HI := Aside0.mk hI
      clear hI HI2
      rcases hq with ⟨g1, g2⟩ | ⟨g1, g2, g3, g4⟩
      all_goals
       try have d1 : decide ((97 : Int) ≤ c) = false := decide_eq_false (by omega)
       try have d2 : decide ((c : Int) ≤ 122) = false := decide_eq_false (by omega)
       try have d3 : decide ((48 : Int) ≤ c) = false := decide_eq_false (by omega)
       try have d4 : decide ((c : Int) ≤ 57) = false := decide_eq_false (by omega)
       go_wp2
       go_roundw
       case rel => exact ⟨k + 1, by go_num, by omega, HI, trivial⟩
       case measure => simp [intOf]; omega
    · have hI := HI2.out
      rw [show letterS k s[k] = false from by simp only [letterS, hc, Bool.or_eq_false_iff, decide_eq_false_iff_not]; omega, Bool.false_and, Bool.false_and] at hI
      have HI := Aside0.mk hI
      clear hI HI2
      rcases hq with ⟨g1, g2, g3⟩ | ⟨g1, g2, g3⟩ | ⟨g1, g2⟩ | ⟨g1, g2, g3⟩ | ⟨g1, g2, g3, g4⟩
      all_goals
       try have d1 : decide ((97 : Int) ≤ c) = false := decide_eq_false (by omega)
       try have d2 : decide ((c : Int) ≤ 122) = false := decide_eq_false (by omega)
       try have d3 : decide ((48 : Int) ≤ c) = false := decide_eq_false (by omega)
       try have d4 : decide ((c : Int) ≤ 57) = false := decide_eq_false (by omega)
       go_wp2
       go_ret
       exact ⟨by rw [← HI.out]; rfl, Below.refl _ _⟩
  · have e : k = s.size := by omega
    have hI := HI.out
    rw [List.drop_of_length_le (by rw [toList_length]; omega), lettersS, Bool.true_and] at hI
    have HI2 := Aside0.mk hI
    clear hI HI
    by_cases g1 : (1 : Int) ≤ s.size
    · by_cases g2 : (s.size : Int) ≤ 12
      · go_wp2_with fail
        refine (contains_any _ ownL 6 6 s _ HO.out (Nat.le_refl _)).mono ?_
        rintro e w2 ⟨rfl, hb⟩
        have HB := Aside0.mk hb
        have hI := HI2.out
        rw [decide_eq_true (by omega), Bool.true_and] at hI
        have HI := Aside0.mk hI
        clear hI HI2 hb
        go_wp2
        go_ret
        exact ⟨by rw [← HI.out]; rfl, HB.out⟩
      · have hI := HI2.out
        rw [decide_eq_false (by omega), Bool.false_and] at hI
        have HI := Aside0.mk hI
        clear hI HI2
        go_wp2
        go_ret
        exact ⟨by rw [← HI.out]; rfl, Below.refl _ _⟩
    · have hI := HI2.out
      rw [decide_eq_false (by omega), Bool.false_and] at hI
      have HI := Aside0.mk hI
      clear hI HI2
      go_wp2
      go_ret
      exact ⟨by rw [← HI.out]; rfl, Below.refl _ _⟩
end Go.Proofs.YthdfmbmbjpmlaaaDoor.Rn
end
section
set_option linter.unusedVariables false
set_option linter.unusedSimpArgs false
namespace Go.Proofs.YthdfmbmbjpmlaaaDoor.Rn
open Go Go.RowKit Go.Proofs.YthdfmbmbjpmlaaaDoorW.PrintWords Go.Proofs.YthdfmbmbjpmlaaaDoorW.PrintLast Go.Proofs.YthdfmbmbjpmlaaaDoorW.PrintMore
theorem row_new {α : Type} {k : Kd α} {W : World} {b : Nat} {cs : Array Value} {t : TypeId} {xs : List α} (hb : W.heap[b]? = some (.cells cs t (0, 0))) (hm : xs.length ≤ 9223372036854775807)
 (h : ∀ j x, xs[j]? = some x → ∃ c, c.length = k.sz ∧ k.K W x c ∧ ∀ i u, c[i]? = some u → cs[j * k.sz + i]? = some u) : k.C W (some ⟨b, 0, none⟩) xs.length xs :=
 ⟨rfl, hm, fun _ => ⟨⟨b, 0, none⟩, rfl, fun j x hx => by
  obtain ⟨c, h1, h2, h3⟩ := h j x hx
  refine ⟨c, h1, h2, fun i u hu => ?_⟩
  rw [add_at]
  have := blk_cell hb (j * k.sz + i)
  rw [Nat.zero_add]
  exact this.trans (h3 i u hu)⟩⟩
theorem one_any (a : Int) (w : World) :
 Calls Tryd.prog 16 #[.int .i32 a] w fun e w' => ∃ g c1 A2 c2 X, e = .returned (.agg #[.int .i64 2, .slice (some ⟨g, 0, none⟩) 1 c1, .slice A2 0 c2]) ∧ 1 ≤ c1 ∧ Kd.F k56 w' (fun k => k = g) (some ⟨g, 0, none⟩) 1 [⟨a, a⟩] ∧ w'.heap[g]? = some (.cells X 56 (0, 0)) ∧ k48.C w' A2 0 [] ∧ w.heap.size ≤ g ∧ g < w'.heap.size ∧ Below w.heap.size w w' := by
 refine (gobolaw6_One.calls a 2 [⟨a, a⟩] [] w rfl).mono ?_
 rintro e w' ⟨v1, v2, rfl, h1, h2, hb⟩
 obtain ⟨A2, c2, rfl⟩ := Kd.R_slice h2
 obtain ⟨g, c1, rfl, hg, hg2, X, hX⟩ := Kd.R_form h1 Nat.one_pos
 refine ⟨g, c1, A2, c2, X, rfl, (Kd.R_reads' h1).2.1, Kd.F_mono (Kd.R_F (Kd.R_tight rfl h1)) (fun k hk => by simpa [Value.ownBlock] using hk), hX, (Kd.R_reads' h2).2.2, hg, hg2, hb⟩
theorem hall3 {P : Program} {ops : Array Oper} {md : Region.Mode} {Q : Exit → Act → World → Prop} {S : World → Prop} {i j k : Nat} {o u t : Oper} {fuel : Nat} {listed : Array Bool} {a : Act} {w : World} (hr : Region.ready md ops listed = [i, j, k]) (hi : ops[i]? = some o) (hj : ops[j]? = some u) (hk : ops[k]? = some t)
 (h1 : ∀ K : Act → World → Prop, (∀ a' w', S w' → wpAnyH P md ops Q S fuel (listed.setIfInBounds i true) a' w' → K a' w') → if Region.wanted o (yielded ops a.tmps) = true then o.wp P a w K Q else K (a.put o.dst undef) w)
 (h2 : ∀ K : Act → World → Prop, (∀ a' w', S w' → wpAnyH P md ops Q S fuel (listed.setIfInBounds j true) a' w' → K a' w') → if Region.wanted u (yielded ops a.tmps) = true then u.wp P a w K Q else K (a.put u.dst undef) w)
 (h3 : ∀ K : Act → World → Prop, (∀ a' w', S w' → wpAnyH P md ops Q S fuel (listed.setIfInBounds k true) a' w' → K a' w') → if Region.wanted t (yielded ops a.tmps) = true then t.wp P a w K Q else K (a.put t.dst undef) w) : wpAnyH P md ops Q S (fuel + 1) listed a w := by
 refine wpAnyH_all hr (by simp) (fun m hm => ?_)
 have fin : ∀ (o : Oper), ops[m]? = some o → (∀ K : Act → World → Prop, (∀ a' w', S w' → wpAnyH P md ops Q S fuel (listed.setIfInBounds m true) a' w' → K a' w') → if Region.wanted o (yielded ops a.tmps) = true then o.wp P a w K Q else K (a.put o.dst undef) w) → wpOp P ops Q m (fun a' w' => S w' ∧ wpAnyH P md ops Q S fuel (listed.setIfInBounds m true) a' w') a w := by
  intro o ho h
  have h2 := h (fun a' w' => S w' ∧ wpAnyH P md ops Q S fuel (listed.setIfInBounds m true) a' w') (fun a' w' hs hh => ⟨hs, hh⟩)
  unfold wpOp
  simp only [ho]
  by_cases hw : Region.wanted o (yielded ops a.tmps) = true
  · rw [if_pos hw] at h2 ⊢
    exact .inl h2
  · rw [if_neg hw] at h2 ⊢
    exact h2
 rcases List.mem_cons.1 hm with rfl | hm
 · exact fin o hi h1
 · rcases List.mem_cons.1 hm with rfl | hm
   · exact fin u hj h2
   · obtain rfl := List.mem_singleton.1 hm
     exact fin t hk h3
theorem re_none {W W' : World} {A : Option Addr} (h : k48.C W A 0 []) : k48.C W' A 0 [] := ⟨rfl, by decide, fun h0 => absurd h0 (by decide)⟩
def oneT (a : Int) : Re := ⟨2, [⟨a, a⟩], []⟩
def madeT : List Tok := [⟨⟨#[97]⟩, 0, 1, oneT 97⟩, ⟨⟨#[98]⟩, 0, 2, ⟨2, [⟨10, 10⟩, ⟨98, 98⟩], []⟩⟩, ⟨⟨#[111]⟩, 1, 3, oneT 99⟩, ⟨⟨#[99]⟩, 2, 4, oneT 100⟩]
theorem range_new {W : World} {g : Nat} (h4 : W.heap[g]? = some (.cells #[.int .i32 10, .int .i32 10, .int .i32 98, .int .i32 98] 56 (0, 0))) : Kd.F k56 W (fun k => k = g) (some ⟨g, 0, none⟩) 2 [⟨10, 10⟩, ⟨98, 98⟩] := fun W' hW => by
 have h5 := (hW g rfl (blk_lt h4)).trans h4
 refine row_new h5 (by decide) (fun j x hx => ?_)
 match j, hx with
 | 0, hx =>
  obtain rfl := Option.some.inj hx
  refine ⟨_, rfl, k56_mk W' _, fun i u hu => ?_⟩
  match i, hu with
  | 0, hu => exact hu
  | 1, hu => exact hu
  | i + 2, hu => simp at hu
 | 1, hx =>
  obtain rfl := Option.some.inj hx
  refine ⟨_, rfl, k56_mk W' _, fun i u hu => ?_⟩
  match i, hu with
  | 0, hu => exact hu
  | 1, hu => exact hu
  | i + 2, hu => simp at hu
 | j + 2, hx => simp at hx
theorem re_noneF {W : World} {ok : Nat → Prop} {A : Option Addr} (h : ∀ W' : World, k48.C W' A 0 []) : Kd.F k48 W ok A 0 [] := fun W' _ => h W'
theorem ne_type {W : World} {a b : Nat} {X Y : Array Value} {t u : TypeId} (ha : W.heap[a]? = some (.cells X t (0, 0))) (hb : W.heap[b]? = some (.cells Y u (0, 0))) (h : t ≠ u) : a ≠ b := fun e => by
 rw [e, hb] at ha
 injection ha with ha
 injection ha with h1 h2
 exact h h2.symm
theorem f_put {W : World} {r : Nat} {g n : Nat} {xs : List S56} (hg : r < g) (p : Addr) {m c : Nat} (h : Kd.F k56 W (fun k => k = g) (some ⟨g, 0, none⟩) n xs) :
 Kd.F k56 ((W.setCell ⟨r, 0, none⟩ (.slice (some p) m c)).setCell ⟨r, 1, none⟩ (.slice none 0 0)) (fun k => k = g) (some ⟨g, 0, none⟩) n xs :=
 Kd.F_far (p := ⟨r, 1, none⟩) (Kd.F_far (p := ⟨r, 0, none⟩) h (fun k hk => by rw [hk]; exact Nat.ne_of_gt hg) _) (fun k hk => by rw [hk]; exact Nat.ne_of_gt hg) _
theorem made_row {W : World} {base gR g4 a0 a1 b1 : Nat} {E0 A2 B2 : Option Addr} {c0 e0 c1 c2 d1 d2 : Nat}
 (hR : W.heap[gR]? = some (.cells #[.string ⟨#[97]⟩, .int .i64 0, .int .i64 1, .int .i64 2, .slice (some ⟨a0, 0, none⟩) 1 c0, .slice E0 0 e0, .string ⟨#[98]⟩, .int .i64 0, .int .i64 2, .int .i64 2, .slice (some ⟨g4, 0, none⟩) 2 2, .slice none 0 0, .string ⟨#[111]⟩, .int .i64 1, .int .i64 3, .int .i64 2, .slice (some ⟨a1, 0, none⟩) 1 c1, .slice A2 0 c2, .string ⟨#[99]⟩, .int .i64 2, .int .i64 4, .int .i64 2, .slice (some ⟨b1, 0, none⟩) 1 d1, .slice B2 0 d2] 50 (0, 0)))
 (hr4 : Kd.F k56 W (fun k => k = g4) (some ⟨g4, 0, none⟩) 2 [⟨10, 10⟩, ⟨98, 98⟩])
 (k0 : 1 ≤ c0) (hA0 : Kd.F k56 W (fun k => k = a0) (some ⟨a0, 0, none⟩) 1 [⟨97, 97⟩]) (hE0 : ∀ W' : World, k48.C W' E0 0 [])
 (k1 : 1 ≤ c1) (hA1 : Kd.F k56 W (fun k => k = a1) (some ⟨a1, 0, none⟩) 1 [⟨99, 99⟩]) (hA2 : ∀ W' : World, k48.C W' A2 0 [])
 (k2 : 1 ≤ d1) (hB1 : Kd.F k56 W (fun k => k = b1) (some ⟨b1, 0, none⟩) 1 [⟨100, 100⟩]) (hB2 : ∀ W' : World, k48.C W' B2 0 [])
 (hb : base ≤ gR) (hb0 : base ≤ a0 ∧ a0 ≠ gR) (hb1 : base ≤ a1 ∧ a1 ≠ gR) (hb2 : base ≤ b1 ∧ b1 ≠ gR) (hb4 : base ≤ g4 ∧ g4 ≠ gR) :
 Kd.N kTok 50 W base (fun k => base ≤ k) (.slice (some ⟨gR, 0, none⟩) 4 4) madeT := by
 have hall : ∀ u ∈ ([.string ⟨#[97]⟩, .int .i64 0, .int .i64 1, .int .i64 2, .slice (some ⟨a0, 0, none⟩) 1 c0, .slice E0 0 e0, .string ⟨#[98]⟩, .int .i64 0, .int .i64 2, .int .i64 2, .slice (some ⟨g4, 0, none⟩) 2 2, .slice none 0 0, .string ⟨#[111]⟩, .int .i64 1, .int .i64 3, .int .i64 2, .slice (some ⟨a1, 0, none⟩) 1 c1, .slice A2 0 c2, .string ⟨#[99]⟩, .int .i64 2, .int .i64 4, .int .i64 2, .slice (some ⟨b1, 0, none⟩) 1 d1, .slice B2 0 d2] : List Value), u.oneCell' = true := by simp [Value.oneCell']
 have ow : (Value.slice (some ⟨gR, 0, none⟩) 4 4).ownBlock = some gR := rfl
 refine ⟨fun k hk => by rw [ow] at hk; injection hk with hk; omega, [[.string ⟨#[97]⟩, .int .i64 0, .int .i64 1, .int .i64 2, .slice (some ⟨a0, 0, none⟩) 1 c0, .slice E0 0 e0], [.string ⟨#[98]⟩, .int .i64 0, .int .i64 2, .int .i64 2, .slice (some ⟨g4, 0, none⟩) 2 2, .slice none 0 0], [.string ⟨#[111]⟩, .int .i64 1, .int .i64 3, .int .i64 2, .slice (some ⟨a1, 0, none⟩) 1 c1, .slice A2 0 c2], [.string ⟨#[99]⟩, .int .i64 2, .int .i64 4, .int .i64 2, .slice (some ⟨b1, 0, none⟩) 1 d1, .slice B2 0 d2]], rfl, ⟨fun k hk => hk.symm, [.string ⟨#[97]⟩, .int .i64 0, .int .i64 1, .int .i64 2, .slice (some ⟨a0, 0, none⟩) 1 c0, .slice E0 0 e0, .string ⟨#[98]⟩, .int .i64 0, .int .i64 2, .int .i64 2, .slice (some ⟨g4, 0, none⟩) 2 2, .slice none 0 0, .string ⟨#[111]⟩, .int .i64 1, .int .i64 3, .int .i64 2, .slice (some ⟨a1, 0, none⟩) 1 c1, .slice A2 0 c2, .string ⟨#[99]⟩, .int .i64 2, .int .i64 4, .int .i64 2, .slice (some ⟨b1, 0, none⟩) 1 d1, .slice B2 0 d2], ⟨rfl, Or.inr ⟨gR, 4, _, rfl, hb, hR, Nat.le_refl _, by unfold maxLen; omega, rfl, rfl⟩⟩, rfl, ?_⟩, ?_⟩
 · intro j p hp
   match j, hp with
   | 0, hp => obtain rfl := Option.some.inj hp; exact ⟨rfl, rfl, fun u hu => hall u (List.mem_of_mem_drop (List.mem_of_mem_take hu))⟩
   | 1, hp => obtain rfl := Option.some.inj hp; exact ⟨rfl, rfl, fun u hu => hall u (List.mem_of_mem_drop (List.mem_of_mem_take hu))⟩
   | 2, hp => obtain rfl := Option.some.inj hp; exact ⟨rfl, rfl, fun u hu => hall u (List.mem_of_mem_drop (List.mem_of_mem_take hu))⟩
   | 3, hp => obtain rfl := Option.some.inj hp; exact ⟨rfl, rfl, fun u hu => hall u (List.mem_of_mem_drop (List.mem_of_mem_take hu))⟩
   | j + 4, hp => simp at hp
 · have mono : ∀ {g : Nat}, base ≤ g ∧ g ≠ gR → ∀ k, k = g → (fun k => base ≤ k ∧ some k ≠ (Value.slice (some ⟨gR, 0, none⟩) 4 4).ownBlock) k := by
    rintro g ⟨h1, h2⟩ k rfl
    exact ⟨h1, by rw [ow]; simpa using h2⟩
   intro j x c hx hc
   match j, hx, hc with
   | 0, hx, hc =>
    obtain rfl := Option.some.inj hx
    obtain rfl := Option.some.inj hc
    exact k50_mkF W _ ⟨⟨#[97]⟩, 0, 1, oneT 97⟩ k0 (Kd.F_mono hA0 (mono hb0)) (Nat.zero_le e0) (re_noneF hE0)
   | 1, hx, hc =>
    obtain rfl := Option.some.inj hx
    obtain rfl := Option.some.inj hc
    exact k50_mkF W _ ⟨⟨#[98]⟩, 0, 2, ⟨2, [⟨10, 10⟩, ⟨98, 98⟩], []⟩⟩ (show 2 ≤ 2 from Nat.le_refl _) (Kd.F_mono hr4 (mono hb4)) (Nat.zero_le 0) (re_noneF (fun W' => (show k48.C W' none 0 [] from ⟨rfl, by decide, fun h => absurd h (by decide)⟩)))
   | 2, hx, hc =>
    obtain rfl := Option.some.inj hx
    obtain rfl := Option.some.inj hc
    exact k50_mkF W _ ⟨⟨#[111]⟩, 1, 3, oneT 99⟩ k1 (Kd.F_mono hA1 (mono hb1)) (Nat.zero_le c2) (re_noneF hA2)
   | 3, hx, hc =>
    obtain rfl := Option.some.inj hx
    obtain rfl := Option.some.inj hc
    exact k50_mkF W _ ⟨⟨#[99]⟩, 2, 4, oneT 100⟩ k2 (Kd.F_mono hB1 (mono hb2)) (Nat.zero_le d2) (re_noneF hB2)
   | j + 4, hx, hc => simp [madeT] at hx
end Go.Proofs.YthdfmbmbjpmlaaaDoor.Rn
end
section
set_option linter.unusedVariables false
set_option linter.unusedSimpArgs false
namespace Go.Proofs.YthdfmbmbjpmlaaaDoor.Rn
open Go Go.RowKit Go.Proofs.YthdfmbmbjpmlaaaDoorW.PrintWords Go.Proofs.YthdfmbmbjpmlaaaDoorW.PrintLast Go.Proofs.YthdfmbmbjpmlaaaDoorW.PrintMore
def eqL {α : Type} (q : α → α → Bool) : List α → List α → Bool
 | [], [] => true
 | x :: l, y :: m => q x y && eqL q l m
 | _, _ => false
theorem eqL_len {α : Type} (q : α → α → Bool) : ∀ {l m : List α}, l.length ≠ m.length → eqL q l m = false
 | [], [], h => absurd rfl h
 | [], _ :: _, _ => rfl
 | _ :: _, [], _ => rfl
 | x :: l, y :: m, h => by
  rw [eqL, eqL_len q (fun e => h (by simp [e])), Bool.and_false]
theorem eqL_drop {α : Type} (q : α → α → Bool) {l m : List α} {k : Nat} (h1 : k < l.length) (h2 : k < m.length) : eqL q (l.drop k) (m.drop k) = (q l[k] m[k] && eqL q (l.drop (k + 1)) (m.drop (k + 1))) := by
 rw [List.drop_eq_getElem_cons h1, List.drop_eq_getElem_cons h2, eqL]
set_option maxHeartbeats 1000000 in
set_option maxRecDepth 100000 in
theorem pats_equal (q : S37 → S37 → Bool) (xs ys : List S37) (A B : Option Addr) (c d : Nat) (w0 w : World) (hA : k37.C w0 A xs.length xs) (hB : k37.C w0 B ys.length ys) (hw : Below w0.heap.size w0 w)
 (hq : ∀ x y cs ds W, x ∈ xs → y ∈ ys → Below w0.heap.size w0 W → k37.K w0 x cs → k37.K w0 y ds → Calls Tryd.prog 13 #[.agg cs.toArray, .agg ds.toArray] W fun e W' => e = .returned (.bool (q x y)) ∧ Below W.heap.size W W') :
 Calls Tryd.prog 25 #[.slice A xs.length c, .slice B ys.length d, .func (.func 13) #[] #[]] w fun e W' => e = .returned (.bool (eqL q xs ys)) ∧ Below w.heap.size w W' := by
 have hl : xs.length ≤ 9223372036854775807 := hA.2.1
 have hm : ys.length ≤ 9223372036854775807 := hB.2.1
 obtain ⟨res, hres⟩ : ∃ r, eqL q xs ys = r := ⟨_, rfl⟩
 rw [hres]
 have HA := Aside0.mk hA
 have HC := Aside0.mk hB
 have HQ := Aside0.mk hq
 have HW := Aside0.mk hw
 have HR := Aside0.mk hres
 clear hA hB hq hw hres
 by_cases hlen : xs.length = ys.length
 · have hmm : ((xs.length : Int) != (ys.length : Int)) = false := by rw [hlen]; simp
   have HL := Aside0.mk hlen
   clear hlen
   go_enter Tryd.func25, Tryd.ntmps25
   go_wp2
   go_loopw [17] (fun i W => ∃ k : Nat, i = .int .i64 k ∧ k ≤ xs.length ∧ Aside0 (Below w.heap.size w W) ∧ Aside0 (eqL q (xs.drop k) (ys.drop k) = res)) (fun i _ => xs.length - (intOf i).toNat)
   case atStart => exact ⟨0, rfl, Nat.zero_le _, ⟨Below.refl _ _⟩, ⟨HR.out⟩⟩
   case round =>
    obtain ⟨k, rfl, hkl, HI, HE⟩ := hrel
    by_cases hlt : k < xs.length
    · have hlt2 : k < ys.length := by have := HL.out; omega
      have HN := Aside0.mk (eqL_drop q hlt hlt2)
      have HB0 := Aside0.mk (join_below HW.out HI.out)
      obtain ⟨g, o, rfl, _, hcell⟩ := row_cells HA.out (by omega) (by decide)
      obtain ⟨g2, o2, rfl, _, hcell2⟩ := row_cells HC.out (by omega) (by decide)
      have hx : xs[k]? = some xs[k] := List.getElem?_eq_getElem hlt
      have hy : ys[k]? = some ys[k] := List.getElem?_eq_getElem hlt2
      have HMX := Aside0.mk (List.getElem_mem hlt)
      have HMY := Aside0.mk (List.getElem_mem hlt2)
      generalize xs[k] = x at hx HMX HN
      generalize ys[k] = y at hy HMY HN
      obtain ⟨cs, hcl, hK, hcc⟩ := hcell k x hx
      obtain ⟨ds, hdl, hK2, hcd⟩ := hcell2 k y hy
      have HK := Aside0.mk hK
      have HK2 := Aside0.mk hK2
      obtain ⟨A1, c1, A2, c2, A3, c3, rfl, l1, g1, l2, g2, l3, g3⟩ := k37_open hK
      obtain ⟨B1, d1, B2, d2, B3, d3, rfl, m1, h1, m2, h2, m3, h3⟩ := k37_open hK2
      have y0 := cell_after HB0.out (hcc 0 (.int .i64 x.f0) rfl)
      have z0 := fun ob => cell_after (below_alloc HB0.out ob) (hcd 0 (.int .i64 y.f0) rfl)
      rw [Nat.add_zero] at y0
      simp only [Nat.add_zero] at z0
      have y1 := cell_after HB0.out (hcc 1 (.slice A1 x.f1.length c1) rfl)
      have z1 := fun ob => cell_after (below_alloc HB0.out ob) (hcd 1 (.slice B1 y.f1.length d1) rfl)
      have y2 := cell_after HB0.out (hcc 2 (.slice A2 x.f2.length c2) rfl)
      have z2 := fun ob => cell_after (below_alloc HB0.out ob) (hcd 2 (.slice B2 y.f2.length d2) rfl)
      have y3 := cell_after HB0.out (hcc 3 (.slice A3 x.f3.length c3) rfl)
      have z3 := fun ob => cell_after (below_alloc HB0.out ob) (hcd 3 (.slice B3 y.f3.length d3) rfl)
      simp only [show k37.sz = 4 from rfl] at y0 z0 y1 z1 y2 z2 y3 z3
      clear hcell hcc hcell2 hcd hx hy hK hK2 hcl hdl
      go_wp2_with fail
      refine (HQ.out x y _ _ _ HMX.out HMY.out (below_alloc (below_alloc HB0.out _) _) HK.out HK2.out).mono ?_
      rintro e w2 ⟨rfl, hb⟩
      have HI2 := Aside0.mk (join_below HI.out (join_below (below_alloc (below1 _ _) _) hb))
      clear hb
      have he := HE.out
      rw [HN.out] at he
      cases hqq : q x y
      · rw [hqq, Bool.false_and] at he
        have HF := Aside0.mk he
        clear he hqq
        go_wp2
        go_ret
        exact ⟨by rw [← HF.out]; rfl, HI2.out⟩
      · rw [hqq, Bool.true_and] at he
        have HF := Aside0.mk he
        clear he hqq
        go_wp2
        go_roundw
        case rel => exact ⟨k + 1, by go_num, by omega, HI2, HF⟩
        case measure => simp [intOf]; omega
    · have he := HE.out
      rw [List.drop_of_length_le (by omega), List.drop_of_length_le (by have := HL.out; omega)] at he
      have HF := Aside0.mk he
      clear he
      go_wp2
      go_ret
      exact ⟨by rw [← HF.out]; rfl, HI.out⟩
 · have hmm : ((xs.length : Int) != (ys.length : Int)) = true := by simp; omega
   have HF := Aside0.mk (eqL_len q hlen)
   have hne : ¬ ((xs.length : Int) = (ys.length : Int)) := by omega
   clear hlen
   go_enter Tryd.func25, Tryd.ntmps25
   go_wp2
   go_ret
   exact ⟨by rw [← HR.out, HF.out]; rfl, Below.refl _ _⟩
set_option maxHeartbeats 1000000 in
set_option maxRecDepth 100000 in
theorem res_equal (q : S48 → S48 → Bool) (xs ys : List S48) (A B : Option Addr) (c d : Nat) (w0 w : World) (hA : k48.C w0 A xs.length xs) (hB : k48.C w0 B ys.length ys) (hw : Below w0.heap.size w0 w)
 (hq : ∀ x y cs ds W, x ∈ xs → y ∈ ys → Below w0.heap.size w0 W → k48.K w0 x cs → k48.K w0 y ds → Calls Tryd.prog 37 #[.agg cs.toArray, .agg ds.toArray] W fun e W' => e = .returned (.bool (q x y)) ∧ Below W.heap.size W W') :
 Calls Tryd.prog 49 #[.slice A xs.length c, .slice B ys.length d, .func (.func 37) #[] #[]] w fun e W' => e = .returned (.bool (eqL q xs ys)) ∧ Below w.heap.size w W' := by
 have hl : xs.length ≤ 9223372036854775807 := hA.2.1
 have hm : ys.length ≤ 9223372036854775807 := hB.2.1
 obtain ⟨res, hres⟩ : ∃ r, eqL q xs ys = r := ⟨_, rfl⟩
 rw [hres]
 have HA := Aside0.mk hA
 have HC := Aside0.mk hB
 have HQ := Aside0.mk hq
 have HW := Aside0.mk hw
 have HR := Aside0.mk hres
 clear hA hB hq hw hres
 by_cases hlen : xs.length = ys.length
 · have hmm : ((xs.length : Int) != (ys.length : Int)) = false := by rw [hlen]; simp
   have HL := Aside0.mk hlen
   clear hlen
   go_enter Tryd.func49, Tryd.ntmps49
   go_wp2
   go_loopw [17] (fun i W => ∃ k : Nat, i = .int .i64 k ∧ k ≤ xs.length ∧ Aside0 (Below w.heap.size w W) ∧ Aside0 (eqL q (xs.drop k) (ys.drop k) = res)) (fun i _ => xs.length - (intOf i).toNat)
   case atStart => exact ⟨0, rfl, Nat.zero_le _, ⟨Below.refl _ _⟩, ⟨HR.out⟩⟩
   case round =>
    obtain ⟨k, rfl, hkl, HI, HE⟩ := hrel
    by_cases hlt : k < xs.length
    · have hlt2 : k < ys.length := by have := HL.out; omega
      have HN := Aside0.mk (eqL_drop q hlt hlt2)
      have HB0 := Aside0.mk (join_below HW.out HI.out)
      obtain ⟨g, o, rfl, _, hcell⟩ := row_cells HA.out (by omega) (by decide)
      obtain ⟨g2, o2, rfl, _, hcell2⟩ := row_cells HC.out (by omega) (by decide)
      have hx : xs[k]? = some xs[k] := List.getElem?_eq_getElem hlt
      have hy : ys[k]? = some ys[k] := List.getElem?_eq_getElem hlt2
      have HMX := Aside0.mk (List.getElem_mem hlt)
      have HMY := Aside0.mk (List.getElem_mem hlt2)
      generalize xs[k] = x at hx HMX HN
      generalize ys[k] = y at hy HMY HN
      obtain ⟨cs, hcl, hK, hcc⟩ := hcell k x hx
      obtain ⟨ds, hdl, hK2, hcd⟩ := hcell2 k y hy
      have HK := Aside0.mk hK
      have HK2 := Aside0.mk hK2
      obtain ⟨A1, c1, A2, c2, rfl, l1, g1, l2, g2⟩ := k48_open hK
      obtain ⟨B1, d1, B2, d2, rfl, m1, h1, m2, h2⟩ := k48_open hK2
      have y0 := cell_after HB0.out (hcc 0 (.int .i64 x.f0) rfl)
      have z0 := fun ob => cell_after (below_alloc HB0.out ob) (hcd 0 (.int .i64 y.f0) rfl)
      rw [Nat.add_zero] at y0
      simp only [Nat.add_zero] at z0
      have y1 := cell_after HB0.out (hcc 1 (.slice A1 x.f1.length c1) rfl)
      have z1 := fun ob => cell_after (below_alloc HB0.out ob) (hcd 1 (.slice B1 y.f1.length d1) rfl)
      have y2 := cell_after HB0.out (hcc 2 (.slice A2 x.f2.length c2) rfl)
      have z2 := fun ob => cell_after (below_alloc HB0.out ob) (hcd 2 (.slice B2 y.f2.length d2) rfl)
      simp only [show k48.sz = 3 from rfl] at y0 z0 y1 z1 y2 z2
      clear hcell hcc hcell2 hcd hx hy hK hK2 hcl hdl
      go_wp2_with fail
      refine (HQ.out x y _ _ _ HMX.out HMY.out (below_alloc (below_alloc HB0.out _) _) HK.out HK2.out).mono ?_
      rintro e w2 ⟨rfl, hb⟩
      have HI2 := Aside0.mk (join_below HI.out (join_below (below_alloc (below1 _ _) _) hb))
      clear hb
      have he := HE.out
      rw [HN.out] at he
      cases hqq : q x y
      · rw [hqq, Bool.false_and] at he
        have HF := Aside0.mk he
        clear he hqq
        go_wp2
        go_ret
        exact ⟨by rw [← HF.out]; rfl, HI2.out⟩
      · rw [hqq, Bool.true_and] at he
        have HF := Aside0.mk he
        clear he hqq
        go_wp2
        go_roundw
        case rel => exact ⟨k + 1, by go_num, by omega, HI2, HF⟩
        case measure => simp [intOf]; omega
    · have he := HE.out
      rw [List.drop_of_length_le (by omega), List.drop_of_length_le (by have := HL.out; omega)] at he
      have HF := Aside0.mk he
      clear he
      go_wp2
      go_ret
      exact ⟨by rw [← HF.out]; rfl, HI.out⟩
 · have hmm : ((xs.length : Int) != (ys.length : Int)) = true := by simp; omega
   have HF := Aside0.mk (eqL_len q hlen)
   have hne : ¬ ((xs.length : Int) = (ys.length : Int)) := by omega
   clear hlen
   go_enter Tryd.func49, Tryd.ntmps49
   go_wp2
   go_ret
   exact ⟨by rw [← HR.out, HF.out]; rfl, Below.refl _ _⟩
end Go.Proofs.YthdfmbmbjpmlaaaDoor.Rn
end
section
set_option linter.unusedVariables false
set_option linter.unusedSimpArgs false
namespace Go.Proofs.YthdfmbmbjpmlaaaDoor.Rn
open Go Go.RowKit Go.Proofs.YthdfmbmbjpmlaaaDoorW.PrintWords Go.Proofs.YthdfmbmbjpmlaaaDoorW.PrintLast Go.Proofs.YthdfmbmbjpmlaaaDoorW.PrintMore
def rgQ (x y : S56) : Bool := (x.f0 == y.f0) && (x.f1 == y.f1)
theorem rd_rgq (l : List S56) (i : Nat) (hi : i < l.length) : rd_T56 l (i : Int) = l[i] := by
 unfold rd_T56
 rw [Int.toNat_natCast, List.getD_eq_getElem?_getD, List.getElem?_eq_getElem hi]
 rfl
theorem eqrg_l (l m : List S56) (hlm : l.length = m.length) (hl : l.length ≤ 9223372036854775807) (d : Nat) : ∀ (k i : Nat), i ≤ l.length → l.length - i = d → d < k → api_Range.l0 k l m (l.length : Int) (i : Int) = some (eqL rgQ (l.drop i) (m.drop i)) := by
 induction d with
 | zero =>
  intro k i h1 h2 hk
  obtain ⟨k, rfl⟩ : ∃ m, k = m + 1 := ⟨k - 1, by omega⟩
  simp only [api_Range.l0]
  rw [if_neg (by omega), List.drop_of_length_le (by omega), List.drop_of_length_le (by omega)]
  rfl
 | succ d ih =>
  intro k i h1 h2 hk
  obtain ⟨k, rfl⟩ : ∃ m, k = m + 1 := ⟨k - 1, by omega⟩
  have hi : i < l.length := by omega
  have hj : i < m.length := by omega
  simp only [api_Range.l0]
  have e2 : wrap64 ((i : Int) + 1) = ((i + 1 : Nat) : Int) := by unfold wrap64; omega
  have hi2 := ih k (i + 1) (by omega) (by omega) (by omega)
  rw [if_pos (by omega), if_pos (by omega), if_pos (by omega), if_pos (by omega), rd_rgq l i hi, rd_rgq m i hj, eqL_drop rgQ hi hj, e2, hi2]
  obtain ⟨x, hx⟩ : ∃ x, l[i] = x := ⟨_, rfl⟩
  obtain ⟨y, hy⟩ : ∃ y, m[i] = y := ⟨_, rfl⟩
  rw [hx, hy]
  clear hx hy hi2 ih e2 h1 h2 hk hi hj
  unfold rgQ
  by_cases h0 : x.f0 = y.f0
  · by_cases h3 : x.f1 = y.f1
    · rw [if_neg (by simp [h0, h3])]
      simp [h0, h3]
    · rw [if_pos (by simp [h0, h3])]
      simp [h0, h3]
  · rw [if_pos (by simp [h0])]
    simp [h0]
theorem eqrg_any (l m : List S56) (A B : Option Addr) (c d : Nat) (w : World) (hA : k56.C w A l.length l) (hB : k56.C w B m.length m) (hc : l.length ≤ c) (hd : m.length ≤ d) :
 Calls Tryd.prog 48 #[.slice A l.length c, .slice B m.length d] w fun e w' => e = .returned (.bool (eqL rgQ l m)) ∧ Below w.heap.size w w' := by
 have hl : l.length ≤ 9223372036854775807 := hA.2.1
 have e : api_Range.f (l.length + 1) l m = some (eqL rgQ l m) := by
  unfold api_Range.f
  by_cases h : l.length = m.length
  · rw [if_pos (by omega)]
    exact eqrg_l l m h hl l.length (l.length + 1) 0 (by omega) (by omega) (by omega)
  · rw [if_neg (by omega), eqL_len _ h]
 refine (api_Range.calls (l.length + 1) A c l B d m _ w hA hc hB hd e).mono ?_
 rintro e w' ⟨rfl, h⟩
 exact ⟨rfl, h.below⟩
mutual
/-- the same expression -/
def sameRe : Re → Re → Bool
 | ⟨a, s, l⟩, y => (a == y.f0) && (eqL rgQ s y.f1 && sameRl l y.f2)
def sameRl : List Re → List Re → Bool
 | [], [] => true
 | x :: l, y :: m => sameRe x y && sameRl l m
 | [], _ :: _ => false
 | _ :: _, [] => false
end
theorem sameRl_eq : ∀ l m : List Re, sameRl l m = eqL sameRe l m
 | [], [] => by simp only [sameRl, eqL]
 | x :: l, y :: m => by
  simp only [sameRl, eqL]
  rw [sameRl_eq l m]
 | [], _ :: _ => by simp only [sameRl, eqL]
 | _ :: _, [] => by simp only [sameRl, eqL]
def SameRC (x : Re) : Prop := ∀ (y : Re) (w0 W : World) (cs ds : List Value), Below w0.heap.size w0 W → kRe.K w0 x cs → kRe.K w0 y ds →
    Calls Tryd.prog 37 #[.agg cs.toArray, .agg ds.toArray] W fun e W' => e = .returned (.bool (sameRe x y)) ∧ Below W.heap.size W W'
set_option maxHeartbeats 2000000 in
set_option maxRecDepth 100000 in
theorem same_re_go (x : Re) (hx : ∀ z, z ∈ x.f2 → SameRC z) : SameRC x := by
 intro y w0 W cs ds hB hK hK2
 obtain ⟨A1, c1, A2, c2, rfl, l1, g1, l2, g2⟩ := k48_open hK
 obtain ⟨B1, d1, B2, d2, rfl, m1, h1, m2, h2⟩ := k48_open hK2
 obtain ⟨res, hres⟩ : ∃ r, sameRe x y = r := ⟨_, rfl⟩
 have hv : sameRe x y = ((x.f0 == y.f0) && (eqL rgQ x.f1 y.f1 && eqL sameRe x.f2 y.f2)) := by
  cases x
  rw [sameRe, sameRl_eq]
 rw [hres]
 have HR : Aside0 (((x.f0 == y.f0) && (eqL rgQ x.f1 y.f1 && eqL sameRe x.f2 y.f2)) = res) := ⟨hv.symm.trans hres⟩
 have HG := Aside0.mk (And.intro (And.intro g1 h1) (And.intro g2 h2))
 have HM := Aside0.mk (And.intro (And.intro l1 m1) (And.intro l2 m2))
 have HX := Aside0.mk hx
 have HB := Aside0.mk hB
 clear hB hK hK2 hx g1 g2 h1 h2 l1 l2 m1 m2 hres hv
 by_cases c0 : x.f0 = y.f0
 · have hr := HR.out
   rw [beq_iff_eq.2 c0, Bool.true_and] at hr
   have HR2 := Aside0.mk hr
   clear hr HR
   obtain ⟨w1, hw1⟩ : ∃ w1, (W.alloc (.cells #[.int .i64 x.f0, .slice A1 x.f1.length c1, .slice A2 x.f2.length c2] 48)).alloc (.cells #[.int .i64 y.f0, .slice B1 y.f1.length d1, .slice B2 y.f2.length d2] 48) = w1 := ⟨_, rfl⟩
   have hB1 : Below W.heap.size W w1 := hw1 ▸ below_alloc (below1 W _) _
   have hn1 : w1.heap[W.heap.size]? = some (.cells #[.int .i64 x.f0, .slice A1 x.f1.length c1, .slice A2 x.f2.length c2] 48 (0, 0)) := by rw [← hw1]; exact blk_alloc (blk_new _ _) _
   have hn2 : w1.heap[W.heap.size + 1]? = some (.cells #[.int .i64 y.f0, .slice B1 y.f1.length d1, .slice B2 y.f2.length d2] 48 (0, 0)) := by
    have h := blk_new (W.alloc (.cells #[.int .i64 x.f0, .slice A1 x.f1.length c1, .slice A2 x.f2.length c2] 48)) (.cells #[.int .i64 y.f0, .slice B1 y.f1.length d1, .slice B2 y.f2.length d2] 48)
    rw [hw1] at h
    simpa using h
   have HN1 := Aside0.mk hn1
   have HN2 := Aside0.mk hn2
   have HB1 := Aside0.mk hB1
   have hee : (x.f0 == y.f0) = true := beq_iff_eq.2 c0
   have y0 : w1.cell? ⟨W.heap.size, 0, none⟩ = some (.int .i64 x.f0) := (blk_cell hn1 0).trans rfl
   have z0 : w1.cell? ⟨W.heap.size + 1, 0, none⟩ = some (.int .i64 y.f0) := (blk_cell hn2 0).trans rfl
   have y1 : w1.cell? ⟨W.heap.size, 1, none⟩ = some (.slice A1 x.f1.length c1) := (blk_cell hn1 1).trans rfl
   have z1 : w1.cell? ⟨W.heap.size + 1, 1, none⟩ = some (.slice B1 y.f1.length d1) := (blk_cell hn2 1).trans rfl
   clear hB1 hn1 hn2 c0
   go_enter Tryd.func37, Tryd.ntmps37
   go_wp2_with fail
   clear hw1
   have q1 := join_below HB.out HB1.out
   refine (eqrg_any x.f1 y.f1 A1 B1 c1 d1 _ (Kd.C_below HG.out.1.1 q1) (Kd.C_below HG.out.1.2 q1) HM.out.1.1 HM.out.1.2).mono ?_
   rintro e w2 ⟨rfl, hb⟩
   have HB2 := Aside0.mk (join_below HB1.out hb)
   have hn1 := blk_below HN1.out hb
   have hn2 := blk_below HN2.out hb
   have y2 : w2.cell? ⟨W.heap.size, 2, none⟩ = some (.slice A2 x.f2.length c2) := (blk_cell hn1 2).trans rfl
   have z2 : w2.cell? ⟨W.heap.size + 1, 2, none⟩ = some (.slice B2 y.f2.length d2) := (blk_cell hn2 2).trans rfl
   clear hb q1 hn1 hn2
   have hr := HR2.out
   cases hq : eqL rgQ x.f1 y.f1
   · rw [hq, Bool.false_and] at hr
     have HF := Aside0.mk hr
     clear hr hq
     go_wp2
     go_ret
     exact ⟨by rw [← HF.out]; rfl, HB2.out⟩
   · rw [hq, Bool.true_and] at hr
     have HF := Aside0.mk hr
     clear hr hq
     go_wp2_with fail
     refine (res_equal sameRe x.f2 y.f2 A2 B2 c2 d2 w0 _ HG.out.2.1 HG.out.2.2 (join_below HB.out HB2.out) (fun a b cs ds W' ha hb hB' hK hK2 => HX.out a ha b w0 W' cs ds hB' hK hK2)).mono ?_
     rintro e w3 ⟨rfl, hb⟩
     have HB3 := Aside0.mk (join_below HB2.out hb)
     clear hb
     go_wp2
     go_ret
     exact ⟨by rw [← HF.out]; rfl, HB3.out⟩
 · have hr := HR.out
   rw [beq_eq_false_iff_ne.2 c0, Bool.false_and] at hr
   have HF := Aside0.mk hr
   have hee : (x.f0 == y.f0) = false := beq_eq_false_iff_ne.2 c0
   clear hr HR c0
   go_enter Tryd.func37, Tryd.ntmps37
   go_wp2
   go_ret
   exact ⟨by rw [← HF.out]; rfl, below_alloc (below1 _ _) _⟩
theorem same_re_all : ∀ (N : Nat) (x : Re), SizeOf.sizeOf x < N → SameRC x
 | 0, x, h => absurd h (Nat.not_lt_zero _)
 | N + 1, x, h => same_re_go x (fun y hy => same_re_all N y (by
     have h1 := List.sizeOf_lt_of_mem hy
     have h2 : SizeOf.sizeOf x.f2 < SizeOf.sizeOf x := by
      cases x
      simp
      omega
     omega))
theorem same_re (x : Re) : SameRC x := same_re_all (SizeOf.sizeOf x + 1) x (Nat.lt_succ_self _)
end Go.Proofs.YthdfmbmbjpmlaaaDoor.Rn
end
section
set_option linter.unusedVariables false
set_option linter.unusedSimpArgs false
namespace Go.Proofs.YthdfmbmbjpmlaaaDoor.Rn
open Go Go.RowKit Go.Proofs.YthdfmbmbjpmlaaaDoorW.PrintWords Go.Proofs.YthdfmbmbjpmlaaaDoorW.PrintLast Go.Proofs.YthdfmbmbjpmlaaaDoorW.PrintMore
def txQ (a b : ByteArray) : Bool := decide (a = b)
theorem eqtx_l (l m : List ByteArray) (hlm : l.length = m.length) (hl : l.length ≤ 9223372036854775807) (d : Nat) : ∀ (k i : Nat), i ≤ l.length → l.length - i = d → d < k → slices_Equal_string_string.l0 k l m (l.length : Int) (i : Int) = some (eqL txQ (l.drop i) (m.drop i)) := by
 induction d with
 | zero =>
  intro k i h1 h2 hk
  obtain ⟨k, rfl⟩ : ∃ m, k = m + 1 := ⟨k - 1, by omega⟩
  simp only [slices_Equal_string_string.l0]
  rw [if_neg (by omega), List.drop_of_length_le (by omega), List.drop_of_length_le (by omega)]
  rfl
 | succ d ih =>
  intro k i h1 h2 hk
  obtain ⟨k, rfl⟩ : ∃ m, k = m + 1 := ⟨k - 1, by omega⟩
  have hi : i < l.length := by omega
  have hj : i < m.length := by omega
  simp only [slices_Equal_string_string.l0]
  have e2 : wrap64 ((i : Int) + 1) = ((i + 1 : Nat) : Int) := by unfold wrap64; omega
  have hi2 := ih k (i + 1) (by omega) (by omega) (by omega)
  rw [if_pos (by omega), if_pos (by omega), if_pos (by omega), if_pos (by omega), rdOf_at l i hi, rdOf_at m i hj, eqL_drop txQ hi hj, e2, hi2]
  obtain ⟨x, hx⟩ : ∃ x, l[i] = x := ⟨_, rfl⟩
  obtain ⟨y, hy⟩ : ∃ y, m[i] = y := ⟨_, rfl⟩
  rw [hx, hy]
  clear hx hy hi2 ih e2 h1 h2 hk hi hj
  unfold txQ
  by_cases h0 : x = y
  · subst h0
    simp
  · have h1 : ¬ (x.toList = y.toList) := fun e => h0 (text_ext e)
    simp [h0, h1]
theorem eqtx_any (l m : List ByteArray) (A B : Option Addr) (c d : Nat) (w : World) (hA : Kd.string.C w A l.length l) (hB : Kd.string.C w B m.length m) (hc : l.length ≤ c) (hd : m.length ≤ d) :
 Calls Tryd.prog 24 #[.slice A l.length c, .slice B m.length d] w fun e w' => e = .returned (.bool (eqL txQ l m)) ∧ Below w.heap.size w w' := by
 have hl : l.length ≤ 9223372036854775807 := hA.2.1
 have e : slices_Equal_string_string.f (l.length + 1) l m = some (eqL txQ l m) := by
  unfold slices_Equal_string_string.f
  by_cases h : l.length = m.length
  · rw [if_pos (by omega)]
    exact eqtx_l l m h hl l.length (l.length + 1) 0 (by omega) (by omega) (by omega)
  · rw [if_neg (by omega), eqL_len _ h]
 refine (slices_Equal_string_string.calls (l.length + 1) A c l B d m _ w hA hc hB hd e).mono ?_
 rintro e w' ⟨rfl, h⟩
 exact ⟨rfl, h.below⟩
mutual
/-- the same pattern -/
def samePt : Pt → Pt → Bool
 | ⟨a, s, t, l⟩, y => (a == y.f0) && (eqL txQ s y.f1 && (eqL txQ t y.f2 && samePl l y.f3))
def samePl : List Pt → List Pt → Bool
 | [], [] => true
 | x :: l, y :: m => samePt x y && samePl l m
 | [], _ :: _ => false
 | _ :: _, [] => false
end
theorem samePl_eq : ∀ l m : List Pt, samePl l m = eqL samePt l m
 | [], [] => by simp only [samePl, eqL]
 | x :: l, y :: m => by
  simp only [samePl, eqL]
  rw [samePl_eq l m]
 | [], _ :: _ => by simp only [samePl, eqL]
 | _ :: _, [] => by simp only [samePl, eqL]
theorem samePt_is (x y : Pt) : samePt x y = ((x.f0 == y.f0) && (eqL txQ x.f1 y.f1 && (eqL txQ x.f2 y.f2 && eqL samePt x.f3 y.f3))) := by
 cases x
 rw [samePt, samePl_eq]
def SamePC (x : Pt) : Prop := ∀ (y : Pt) (w0 W : World) (cs ds : List Value), Below w0.heap.size w0 W → kPt.K w0 x cs → kPt.K w0 y ds →
    Calls Tryd.prog 13 #[.agg cs.toArray, .agg ds.toArray] W fun e W' => e = .returned (.bool (samePt x y)) ∧ Below W.heap.size W W'
set_option maxHeartbeats 2000000 in
set_option maxRecDepth 100000 in
theorem same_pt_go (x : Pt) (hx : ∀ z, z ∈ x.f3 → SamePC z) (y : Pt) (w0 W : World) (cs ds : List Value) (hB : Below w0.heap.size w0 W) (hK : k37.K w0 x cs) (hK2 : k37.K w0 y ds) :
 Calls Tryd.prog 13 #[.agg cs.toArray, .agg ds.toArray] W fun e W' => e = .returned (.bool (samePt x y)) ∧ Below W.heap.size W W' := by
 obtain ⟨A1, c1, A2, c2, A3, c3, rfl, l1, g1, l2, g2, l3, g3⟩ := k37_open hK
 obtain ⟨B1, d1, B2, d2, B3, d3, rfl, m1, h1, m2, h2, m3, h3⟩ := k37_open hK2
 obtain ⟨res, hres⟩ : ∃ r, samePt x y = r := ⟨_, rfl⟩
 have hv : samePt x y = ((x.f0 == y.f0) && ((eqL txQ x.f1 y.f1) && ((eqL txQ x.f2 y.f2) && (eqL samePt x.f3 y.f3)))) := samePt_is x y
 rw [hres]
 have HR : Aside0 (((x.f0 == y.f0) && ((eqL txQ x.f1 y.f1) && ((eqL txQ x.f2 y.f2) && (eqL samePt x.f3 y.f3)))) = res) := ⟨hv.symm.trans hres⟩
 have L1 := Aside0.mk l1
 have G1 := Aside0.mk g1
 have L2 := Aside0.mk l2
 have G2 := Aside0.mk g2
 have L3 := Aside0.mk l3
 have G3 := Aside0.mk g3
 have M1 := Aside0.mk m1
 have H1 := Aside0.mk h1
 have M2 := Aside0.mk m2
 have H2 := Aside0.mk h2
 have M3 := Aside0.mk m3
 have H3 := Aside0.mk h3
 have HB := Aside0.mk hB
 clear hB hK hK2 hres hv l1 g1 l2 g2 l3 g3 m1 h1 m2 h2 m3 h3
 by_cases q0 : (x.f0 == y.f0) = true
 rotate_left
 · have hr := HR.out
   rw [Bool.not_eq_true] at q0
   rw [q0, Bool.false_and] at hr
   have HF := Aside0.mk hr
   clear hr HR
   go_enter Tryd.func13, Tryd.ntmps13
   go_wp2
   go_ret
   exact ⟨by rw [← HF.out]; rfl, below_alloc (below1 _ _) _⟩
 have hr := HR.out
 rw [q0, Bool.true_and] at hr
 have HR2 := Aside0.mk hr
 clear hr HR
 obtain ⟨w1, hw1⟩ : ∃ w1, (W.alloc (.cells #[.int .i64 x.f0, .slice A1 x.f1.length c1, .slice A2 x.f2.length c2, .slice A3 x.f3.length c3] 37)).alloc (.cells #[.int .i64 y.f0, .slice B1 y.f1.length d1, .slice B2 y.f2.length d2, .slice B3 y.f3.length d3] 37) = w1 := ⟨_, rfl⟩
 have HB1 : Aside0 (Below W.heap.size W w1) := ⟨hw1 ▸ below_alloc (below1 W _) _⟩
 have hn1 : w1.heap[W.heap.size]? = some (.cells #[.int .i64 x.f0, .slice A1 x.f1.length c1, .slice A2 x.f2.length c2, .slice A3 x.f3.length c3] 37 (0, 0)) := by rw [← hw1]; exact blk_alloc (blk_new _ _) _
 have hn2 : w1.heap[W.heap.size + 1]? = some (.cells #[.int .i64 y.f0, .slice B1 y.f1.length d1, .slice B2 y.f2.length d2, .slice B3 y.f3.length d3] 37 (0, 0)) := by
  have h := blk_new (W.alloc (.cells #[.int .i64 x.f0, .slice A1 x.f1.length c1, .slice A2 x.f2.length c2, .slice A3 x.f3.length c3] 37)) (.cells #[.int .i64 y.f0, .slice B1 y.f1.length d1, .slice B2 y.f2.length d2, .slice B3 y.f3.length d3] 37)
  rw [hw1] at h
  simpa using h
 have HN1 := Aside0.mk hn1
 have HN2 := Aside0.mk hn2
 have y0 : w1.cell? ⟨W.heap.size, 0, none⟩ = some (.int .i64 x.f0) := (blk_cell hn1 0).trans rfl
 have z0 : w1.cell? ⟨W.heap.size + 1, 0, none⟩ = some (.int .i64 y.f0) := (blk_cell hn2 0).trans rfl
 have y1 : w1.cell? ⟨W.heap.size, 1, none⟩ = some (.slice A1 x.f1.length c1) := (blk_cell hn1 1).trans rfl
 have z1 : w1.cell? ⟨W.heap.size + 1, 1, none⟩ = some (.slice B1 y.f1.length d1) := (blk_cell hn2 1).trans rfl
 have y2 : w1.cell? ⟨W.heap.size, 2, none⟩ = some (.slice A2 x.f2.length c2) := (blk_cell hn1 2).trans rfl
 have z2 : w1.cell? ⟨W.heap.size + 1, 2, none⟩ = some (.slice B2 y.f2.length d2) := (blk_cell hn2 2).trans rfl
 have y3 : w1.cell? ⟨W.heap.size, 3, none⟩ = some (.slice A3 x.f3.length c3) := (blk_cell hn1 3).trans rfl
 have z3 : w1.cell? ⟨W.heap.size + 1, 3, none⟩ = some (.slice B3 y.f3.length d3) := (blk_cell hn2 3).trans rfl
 clear hn1 hn2
 go_enter Tryd.func13, Tryd.ntmps13
 go_wp2_with fail
 clear hw1
 have qb := join_below HB.out HB1.out
 refine (eqtx_any x.f1 y.f1 A1 B1 c1 d1 _ (Kd.C_below G1.out qb) (Kd.C_below H1.out qb) L1.out M1.out).mono ?_
 rintro e w2 ⟨rfl, hb⟩
 have HB2 := Aside0.mk (join_below HB1.out hb)
 have hr := HR2.out
 have HN1 := Aside0.mk (blk_below HN1.out hb)
 have HN2 := Aside0.mk (blk_below HN2.out hb)
 have y2 : w2.cell? ⟨W.heap.size, 2, none⟩ = some (.slice A2 x.f2.length c2) := (blk_cell HN1.out 2).trans rfl
 have z2 : w2.cell? ⟨W.heap.size + 1, 2, none⟩ = some (.slice B2 y.f2.length d2) := (blk_cell HN2.out 2).trans rfl
 clear hb qb
 cases hq : eqL txQ x.f1 y.f1
 · rw [hq, Bool.false_and] at hr
   have HF := Aside0.mk hr
   clear hr hq
   go_wp2
   go_ret
   exact ⟨by rw [← HF.out]; rfl, HB2.out⟩
 · rw [hq, Bool.true_and] at hr
   have HR2 := Aside0.mk hr
   clear hr hq
   go_wp2_with fail
   have qb := join_below HB.out HB2.out
   refine (eqtx_any x.f2 y.f2 A2 B2 c2 d2 _ (Kd.C_below G2.out qb) (Kd.C_below H2.out qb) L2.out M2.out).mono ?_
   rintro e w3 ⟨rfl, hb⟩
   have HB3 := Aside0.mk (join_below HB2.out hb)
   have hr := HR2.out
   have HN1 := Aside0.mk (blk_below HN1.out hb)
   have HN2 := Aside0.mk (blk_below HN2.out hb)
   have y3 : w3.cell? ⟨W.heap.size, 3, none⟩ = some (.slice A3 x.f3.length c3) := (blk_cell HN1.out 3).trans rfl
   have z3 : w3.cell? ⟨W.heap.size + 1, 3, none⟩ = some (.slice B3 y.f3.length d3) := (blk_cell HN2.out 3).trans rfl
   clear hb qb
   cases hq : eqL txQ x.f2 y.f2
   · rw [hq, Bool.false_and] at hr
     have HF := Aside0.mk hr
     clear hr hq
     go_wp2
     go_ret
     exact ⟨by rw [← HF.out]; rfl, HB3.out⟩
   · rw [hq, Bool.true_and] at hr
     have HR2 := Aside0.mk hr
     clear hr hq
     go_wp2_with fail
     have qb := join_below HB.out HB3.out
     refine (pats_equal samePt x.f3 y.f3 A3 B3 c3 d3 w0 _ G3.out H3.out qb (fun a b cs ds W' ha hb hB' hK hK2 => hx a ha b w0 W' cs ds hB' hK hK2)).mono ?_
     rintro e w4 ⟨rfl, hb⟩
     have HB4 := Aside0.mk (join_below HB3.out hb)
     have hr := HR2.out
     have HF := Aside0.mk hr
     clear hr hb qb
     go_wp2
     go_ret
     exact ⟨by rw [← HF.out]; rfl, HB4.out⟩
theorem same_pt_all : ∀ (N : Nat) (x : Pt), SizeOf.sizeOf x < N → SamePC x
 | 0, x, h => absurd h (Nat.not_lt_zero _)
 | N + 1, x, h => same_pt_go x (fun y hy => same_pt_all N y (by
     have h1 := List.sizeOf_lt_of_mem hy
     have h2 : SizeOf.sizeOf x.f3 < SizeOf.sizeOf x := by
      cases x
      simp
      omega
     omega))
theorem same_pt (x : Pt) : SamePC x := same_pt_all (SizeOf.sizeOf x + 1) x (Nat.lt_succ_self _)
end Go.Proofs.YthdfmbmbjpmlaaaDoor.Rn
end
section
set_option linter.unusedVariables false
set_option linter.unusedSimpArgs false
namespace Go.Proofs.YthdfmbmbjpmlaaaDoor.Rn
open Go Go.RowKit Go.Proofs.YthdfmbmbjpmlaaaDoorW.PrintWords Go.Proofs.YthdfmbmbjpmlaaaDoorW.PrintLast Go.Proofs.YthdfmbmbjpmlaaaDoorW.PrintMore
set_option maxHeartbeats 1000000 in
set_option maxRecDepth 100000 in
theorem toks_equal (q : S50 → S50 → Bool) (xs ys : List S50) (A B : Option Addr) (c d : Nat) (w0 w : World) (hA : k50.C w0 A xs.length xs) (hB : k50.C w0 B ys.length ys) (hw : Below w0.heap.size w0 w)
 (hq : ∀ x y cs ds W, x ∈ xs → y ∈ ys → Below w0.heap.size w0 W → k50.K w0 x cs → k50.K w0 y ds → Calls Tryd.prog 36 #[.agg cs.toArray, .agg ds.toArray] W fun e W' => e = .returned (.bool (q x y)) ∧ Below W.heap.size W W') :
 Calls Tryd.prog 35 #[.slice A xs.length c, .slice B ys.length d, .func (.func 36) #[] #[]] w fun e W' => e = .returned (.bool (eqL q xs ys)) ∧ Below w.heap.size w W' := by
 have hl : xs.length ≤ 9223372036854775807 := hA.2.1
 have hm : ys.length ≤ 9223372036854775807 := hB.2.1
 obtain ⟨res, hres⟩ : ∃ r, eqL q xs ys = r := ⟨_, rfl⟩
 rw [hres]
 have HA := Aside0.mk hA
 have HC := Aside0.mk hB
 have HQ := Aside0.mk hq
 have HW := Aside0.mk hw
 have HR := Aside0.mk hres
 clear hA hB hq hw hres
 by_cases hlen : xs.length = ys.length
 · have hmm : ((xs.length : Int) != (ys.length : Int)) = false := by rw [hlen]; simp
   have HL := Aside0.mk hlen
   clear hlen
   go_enter Tryd.func35, Tryd.ntmps35
   go_wp2
   go_loopw [17] (fun i W => ∃ k : Nat, i = .int .i64 k ∧ k ≤ xs.length ∧ Aside0 (Below w.heap.size w W) ∧ Aside0 (eqL q (xs.drop k) (ys.drop k) = res)) (fun i _ => xs.length - (intOf i).toNat)
   case atStart => exact ⟨0, rfl, Nat.zero_le _, ⟨Below.refl _ _⟩, ⟨HR.out⟩⟩
   case round =>
    obtain ⟨k, rfl, hkl, HI, HE⟩ := hrel
    by_cases hlt : k < xs.length
    · have hlt2 : k < ys.length := by have := HL.out; omega
      have HN := Aside0.mk (eqL_drop q hlt hlt2)
      have HB0 := Aside0.mk (join_below HW.out HI.out)
      obtain ⟨g, o, rfl, _, hcell⟩ := row_cells HA.out (by omega) (by decide)
      obtain ⟨g2, o2, rfl, _, hcell2⟩ := row_cells HC.out (by omega) (by decide)
      have hx : xs[k]? = some xs[k] := List.getElem?_eq_getElem hlt
      have hy : ys[k]? = some ys[k] := List.getElem?_eq_getElem hlt2
      have HMX := Aside0.mk (List.getElem_mem hlt)
      have HMY := Aside0.mk (List.getElem_mem hlt2)
      generalize xs[k] = x at hx HMX HN
      generalize ys[k] = y at hy HMY HN
      obtain ⟨cs, hcl, hK, hcc⟩ := hcell k x hx
      obtain ⟨ds, hdl, hK2, hcd⟩ := hcell2 k y hy
      have HK := Aside0.mk hK
      have HK2 := Aside0.mk hK2
      obtain ⟨A4, c4, A5, c5, rfl, l4, g4, l5, g5⟩ := k50_open hK
      obtain ⟨B4, d4, B5, d5, rfl, m4, h4, m5, h5⟩ := k50_open hK2
      have y0 := cell_after HB0.out (hcc 0 (.string x.f0) rfl)
      have z0 := fun ob => cell_after (below_alloc HB0.out ob) (hcd 0 (.string y.f0) rfl)
      rw [Nat.add_zero] at y0
      simp only [Nat.add_zero] at z0
      have y1 := cell_after HB0.out (hcc 1 (.int .i64 x.f1) rfl)
      have z1 := fun ob => cell_after (below_alloc HB0.out ob) (hcd 1 (.int .i64 y.f1) rfl)
      have y2 := cell_after HB0.out (hcc 2 (.int .i64 x.f2) rfl)
      have z2 := fun ob => cell_after (below_alloc HB0.out ob) (hcd 2 (.int .i64 y.f2) rfl)
      have y3 := cell_after HB0.out (hcc 3 (.int .i64 x.f3.f0) rfl)
      have z3 := fun ob => cell_after (below_alloc HB0.out ob) (hcd 3 (.int .i64 y.f3.f0) rfl)
      have y4 := cell_after HB0.out (hcc 4 (.slice A4 x.f3.f1.length c4) rfl)
      have z4 := fun ob => cell_after (below_alloc HB0.out ob) (hcd 4 (.slice B4 y.f3.f1.length d4) rfl)
      have y5 := cell_after HB0.out (hcc 5 (.slice A5 x.f3.f2.length c5) rfl)
      have z5 := fun ob => cell_after (below_alloc HB0.out ob) (hcd 5 (.slice B5 y.f3.f2.length d5) rfl)
      simp only [show k50.sz = 6 from rfl] at y0 z0 y1 z1 y2 z2 y3 z3 y4 z4 y5 z5
      clear hcell hcc hcell2 hcd hx hy hK hK2 hcl hdl
      go_wp2_with fail
      refine (HQ.out x y _ _ _ HMX.out HMY.out (below_alloc (below_alloc HB0.out _) _) HK.out HK2.out).mono ?_
      rintro e w2 ⟨rfl, hb⟩
      have HI2 := Aside0.mk (join_below HI.out (join_below (below_alloc (below1 _ _) _) hb))
      clear hb
      have he := HE.out
      rw [HN.out] at he
      cases hqq : q x y
      · rw [hqq, Bool.false_and] at he
        have HF := Aside0.mk he
        clear he hqq
        go_wp2
        go_ret
        exact ⟨by rw [← HF.out]; rfl, HI2.out⟩
      · rw [hqq, Bool.true_and] at he
        have HF := Aside0.mk he
        clear he hqq
        go_wp2
        go_roundw
        case rel => exact ⟨k + 1, by go_num, by omega, HI2, HF⟩
        case measure => simp [intOf]; omega
    · have he := HE.out
      rw [List.drop_of_length_le (by omega), List.drop_of_length_le (by have := HL.out; omega)] at he
      have HF := Aside0.mk he
      clear he
      go_wp2
      go_ret
      exact ⟨by rw [← HF.out]; rfl, HI.out⟩
 · have hmm : ((xs.length : Int) != (ys.length : Int)) = true := by simp; omega
   have HF := Aside0.mk (eqL_len q hlen)
   have hne : ¬ ((xs.length : Int) = (ys.length : Int)) := by omega
   clear hlen
   go_enter Tryd.func35, Tryd.ntmps35
   go_wp2
   go_ret
   exact ⟨by rw [← HR.out, HF.out]; rfl, Below.refl _ _⟩
set_option maxHeartbeats 1000000 in
set_option maxRecDepth 100000 in
theorem ruls_equal (q : S32 → S32 → Bool) (xs ys : List S32) (A B : Option Addr) (c d : Nat) (w0 w : World) (hA : k32.C w0 A xs.length xs) (hB : k32.C w0 B ys.length ys) (hw : Below w0.heap.size w0 w)
 (hq : ∀ x y cs ds W, x ∈ xs → y ∈ ys → Below w0.heap.size w0 W → k32.K w0 x cs → k32.K w0 y ds → Calls Tryd.prog 39 #[.agg cs.toArray, .agg ds.toArray] W fun e W' => e = .returned (.bool (q x y)) ∧ Below W.heap.size W W') :
 Calls Tryd.prog 38 #[.slice A xs.length c, .slice B ys.length d, .func (.func 39) #[] #[]] w fun e W' => e = .returned (.bool (eqL q xs ys)) ∧ Below w.heap.size w W' := by
 have hl : xs.length ≤ 9223372036854775807 := hA.2.1
 have hm : ys.length ≤ 9223372036854775807 := hB.2.1
 obtain ⟨res, hres⟩ : ∃ r, eqL q xs ys = r := ⟨_, rfl⟩
 rw [hres]
 have HA := Aside0.mk hA
 have HC := Aside0.mk hB
 have HQ := Aside0.mk hq
 have HW := Aside0.mk hw
 have HR := Aside0.mk hres
 clear hA hB hq hw hres
 by_cases hlen : xs.length = ys.length
 · have hmm : ((xs.length : Int) != (ys.length : Int)) = false := by rw [hlen]; simp
   have HL := Aside0.mk hlen
   clear hlen
   go_enter Tryd.func38, Tryd.ntmps38
   go_wp2
   go_loopw [17] (fun i W => ∃ k : Nat, i = .int .i64 k ∧ k ≤ xs.length ∧ Aside0 (Below w.heap.size w W) ∧ Aside0 (eqL q (xs.drop k) (ys.drop k) = res)) (fun i _ => xs.length - (intOf i).toNat)
   case atStart => exact ⟨0, rfl, Nat.zero_le _, ⟨Below.refl _ _⟩, ⟨HR.out⟩⟩
   case round =>
    obtain ⟨k, rfl, hkl, HI, HE⟩ := hrel
    by_cases hlt : k < xs.length
    · have hlt2 : k < ys.length := by have := HL.out; omega
      have HN := Aside0.mk (eqL_drop q hlt hlt2)
      have HB0 := Aside0.mk (join_below HW.out HI.out)
      obtain ⟨g, o, rfl, _, hcell⟩ := row_cells HA.out (by omega) (by decide)
      obtain ⟨g2, o2, rfl, _, hcell2⟩ := row_cells HC.out (by omega) (by decide)
      have hx : xs[k]? = some xs[k] := List.getElem?_eq_getElem hlt
      have hy : ys[k]? = some ys[k] := List.getElem?_eq_getElem hlt2
      have HMX := Aside0.mk (List.getElem_mem hlt)
      have HMY := Aside0.mk (List.getElem_mem hlt2)
      generalize xs[k] = x at hx HMX HN
      generalize ys[k] = y at hy HMY HN
      obtain ⟨cs, hcl, hK, hcc⟩ := hcell k x hx
      obtain ⟨ds, hdl, hK2, hcd⟩ := hcell2 k y hy
      have HK := Aside0.mk hK
      have HK2 := Aside0.mk hK2
      obtain ⟨A2, c2, rfl, l2, g2⟩ := k32_open hK
      obtain ⟨B2, d2, rfl, m2, h2⟩ := k32_open hK2
      have y0 := cell_after HB0.out (hcc 0 (.int .i64 x.f0) rfl)
      have z0 := fun ob => cell_after (below_alloc HB0.out ob) (hcd 0 (.int .i64 y.f0) rfl)
      rw [Nat.add_zero] at y0
      simp only [Nat.add_zero] at z0
      have y1 := cell_after HB0.out (hcc 1 (.bool x.f1) rfl)
      have z1 := fun ob => cell_after (below_alloc HB0.out ob) (hcd 1 (.bool y.f1) rfl)
      have y2 := cell_after HB0.out (hcc 2 (.slice A2 x.f2.length c2) rfl)
      have z2 := fun ob => cell_after (below_alloc HB0.out ob) (hcd 2 (.slice B2 y.f2.length d2) rfl)
      simp only [show k32.sz = 3 from rfl] at y0 z0 y1 z1 y2 z2
      clear hcell hcc hcell2 hcd hx hy hK hK2 hcl hdl
      go_wp2_with fail
      refine (HQ.out x y _ _ _ HMX.out HMY.out (below_alloc (below_alloc HB0.out _) _) HK.out HK2.out).mono ?_
      rintro e w2 ⟨rfl, hb⟩
      have HI2 := Aside0.mk (join_below HI.out (join_below (below_alloc (below1 _ _) _) hb))
      clear hb
      have he := HE.out
      rw [HN.out] at he
      cases hqq : q x y
      · rw [hqq, Bool.false_and] at he
        have HF := Aside0.mk he
        clear he hqq
        go_wp2
        go_ret
        exact ⟨by rw [← HF.out]; rfl, HI2.out⟩
      · rw [hqq, Bool.true_and] at he
        have HF := Aside0.mk he
        clear he hqq
        go_wp2
        go_roundw
        case rel => exact ⟨k + 1, by go_num, by omega, HI2, HF⟩
        case measure => simp [intOf]; omega
    · have he := HE.out
      rw [List.drop_of_length_le (by omega), List.drop_of_length_le (by have := HL.out; omega)] at he
      have HF := Aside0.mk he
      clear he
      go_wp2
      go_ret
      exact ⟨by rw [← HF.out]; rfl, HI.out⟩
 · have hmm : ((xs.length : Int) != (ys.length : Int)) = true := by simp; omega
   have HF := Aside0.mk (eqL_len q hlen)
   have hne : ¬ ((xs.length : Int) = (ys.length : Int)) := by omega
   clear hlen
   go_enter Tryd.func38, Tryd.ntmps38
   go_wp2
   go_ret
   exact ⟨by rw [← HR.out, HF.out]; rfl, Below.refl _ _⟩
set_option maxHeartbeats 1000000 in
set_option maxRecDepth 100000 in
theorem stps_equal (q : S39 → S39 → Bool) (xs ys : List S39) (A B : Option Addr) (c d : Nat) (w0 w : World) (hA : k39.C w0 A xs.length xs) (hB : k39.C w0 B ys.length ys) (hw : Below w0.heap.size w0 w)
 (hq : ∀ x y cs ds W, x ∈ xs → y ∈ ys → Below w0.heap.size w0 W → k39.K w0 x cs → k39.K w0 y ds → Calls Tryd.prog 51 #[.agg cs.toArray, .agg ds.toArray] W fun e W' => e = .returned (.bool (q x y)) ∧ Below W.heap.size W W') :
 Calls Tryd.prog 50 #[.slice A xs.length c, .slice B ys.length d, .func (.func 51) #[] #[]] w fun e W' => e = .returned (.bool (eqL q xs ys)) ∧ Below w.heap.size w W' := by
 have hl : xs.length ≤ 9223372036854775807 := hA.2.1
 have hm : ys.length ≤ 9223372036854775807 := hB.2.1
 obtain ⟨res, hres⟩ : ∃ r, eqL q xs ys = r := ⟨_, rfl⟩
 rw [hres]
 have HA := Aside0.mk hA
 have HC := Aside0.mk hB
 have HQ := Aside0.mk hq
 have HW := Aside0.mk hw
 have HR := Aside0.mk hres
 clear hA hB hq hw hres
 by_cases hlen : xs.length = ys.length
 · have hmm : ((xs.length : Int) != (ys.length : Int)) = false := by rw [hlen]; simp
   have HL := Aside0.mk hlen
   clear hlen
   go_enter Tryd.func50, Tryd.ntmps50
   go_wp2
   go_loopw [17] (fun i W => ∃ k : Nat, i = .int .i64 k ∧ k ≤ xs.length ∧ Aside0 (Below w.heap.size w W) ∧ Aside0 (eqL q (xs.drop k) (ys.drop k) = res)) (fun i _ => xs.length - (intOf i).toNat)
   case atStart => exact ⟨0, rfl, Nat.zero_le _, ⟨Below.refl _ _⟩, ⟨HR.out⟩⟩
   case round =>
    obtain ⟨k, rfl, hkl, HI, HE⟩ := hrel
    by_cases hlt : k < xs.length
    · have hlt2 : k < ys.length := by have := HL.out; omega
      have HN := Aside0.mk (eqL_drop q hlt hlt2)
      have HB0 := Aside0.mk (join_below HW.out HI.out)
      obtain ⟨g, o, rfl, _, hcell⟩ := row_cells HA.out (by omega) (by decide)
      obtain ⟨g2, o2, rfl, _, hcell2⟩ := row_cells HC.out (by omega) (by decide)
      have hx : xs[k]? = some xs[k] := List.getElem?_eq_getElem hlt
      have hy : ys[k]? = some ys[k] := List.getElem?_eq_getElem hlt2
      have HMX := Aside0.mk (List.getElem_mem hlt)
      have HMY := Aside0.mk (List.getElem_mem hlt2)
      generalize xs[k] = x at hx HMX HN
      generalize ys[k] = y at hy HMY HN
      obtain ⟨cs, hcl, hK, hcc⟩ := hcell k x hx
      obtain ⟨ds, hdl, hK2, hcd⟩ := hcell2 k y hy
      have HK := Aside0.mk hK
      have HK2 := Aside0.mk hK2
      obtain ⟨A0, c0, A2, c2, A3, c3, A4, c4, rfl, l0, g0, l2, g2, l3, g3, l4, g4⟩ := k39_open hK
      obtain ⟨B0, d0, B2, d2, B3, d3, B4, d4, rfl, m0, h0, m2, h2, m3, h3, m4, h4⟩ := k39_open hK2
      have y0 := cell_after HB0.out (hcc 0 (.slice A0 x.f0.length c0) rfl)
      have z0 := fun ob => cell_after (below_alloc HB0.out ob) (hcd 0 (.slice B0 y.f0.length d0) rfl)
      rw [Nat.add_zero] at y0
      simp only [Nat.add_zero] at z0
      have y1 := cell_after HB0.out (hcc 1 (.int .i64 x.f1.f0) rfl)
      have z1 := fun ob => cell_after (below_alloc HB0.out ob) (hcd 1 (.int .i64 y.f1.f0) rfl)
      have y2 := cell_after HB0.out (hcc 2 (.slice A2 x.f1.f1.length c2) rfl)
      have z2 := fun ob => cell_after (below_alloc HB0.out ob) (hcd 2 (.slice B2 y.f1.f1.length d2) rfl)
      have y3 := cell_after HB0.out (hcc 3 (.slice A3 x.f1.f2.length c3) rfl)
      have z3 := fun ob => cell_after (below_alloc HB0.out ob) (hcd 3 (.slice B3 y.f1.f2.length d3) rfl)
      have y4 := cell_after HB0.out (hcc 4 (.slice A4 x.f1.f3.length c4) rfl)
      have z4 := fun ob => cell_after (below_alloc HB0.out ob) (hcd 4 (.slice B4 y.f1.f3.length d4) rfl)
      simp only [show k39.sz = 5 from rfl] at y0 z0 y1 z1 y2 z2 y3 z3 y4 z4
      clear hcell hcc hcell2 hcd hx hy hK hK2 hcl hdl
      go_wp2_with fail
      refine (HQ.out x y _ _ _ HMX.out HMY.out (below_alloc (below_alloc HB0.out _) _) HK.out HK2.out).mono ?_
      rintro e w2 ⟨rfl, hb⟩
      have HI2 := Aside0.mk (join_below HI.out (join_below (below_alloc (below1 _ _) _) hb))
      clear hb
      have he := HE.out
      rw [HN.out] at he
      cases hqq : q x y
      · rw [hqq, Bool.false_and] at he
        have HF := Aside0.mk he
        clear he hqq
        go_wp2
        go_ret
        exact ⟨by rw [← HF.out]; rfl, HI2.out⟩
      · rw [hqq, Bool.true_and] at he
        have HF := Aside0.mk he
        clear he hqq
        go_wp2
        go_roundw
        case rel => exact ⟨k + 1, by go_num, by omega, HI2, HF⟩
        case measure => simp [intOf]; omega
    · have he := HE.out
      rw [List.drop_of_length_le (by omega), List.drop_of_length_le (by have := HL.out; omega)] at he
      have HF := Aside0.mk he
      clear he
      go_wp2
      go_ret
      exact ⟨by rw [← HF.out]; rfl, HI.out⟩
 · have hmm : ((xs.length : Int) != (ys.length : Int)) = true := by simp; omega
   have HF := Aside0.mk (eqL_len q hlen)
   have hne : ¬ ((xs.length : Int) = (ys.length : Int)) := by omega
   clear hlen
   go_enter Tryd.func50, Tryd.ntmps50
   go_wp2
   go_ret
   exact ⟨by rw [← HR.out, HF.out]; rfl, Below.refl _ _⟩
def sameStp (x y : Stp) : Bool := eqL txQ x.f0 y.f0 && samePt x.f1 y.f1
def sameRul (x y : Rul) : Bool := (x.f0 == y.f0) && ((x.f1 == y.f1) && eqL sameStp x.f2 y.f2)
def sameTok (x y : Tok) : Bool := (x.f0.toList == y.f0.toList) && ((x.f1 == y.f1) && ((x.f2 == y.f2) && sameRe x.f3 y.f3))
set_option maxHeartbeats 2000000 in
set_option maxRecDepth 100000 in
theorem same_stp (x y : Stp) (w0 W : World) (cs ds : List Value) (hB : Below w0.heap.size w0 W) (hK : k39.K w0 x cs) (hK2 : k39.K w0 y ds) :
 Calls Tryd.prog 51 #[.agg cs.toArray, .agg ds.toArray] W fun e W' => e = .returned (.bool (sameStp x y)) ∧ Below W.heap.size W W' := by
 obtain ⟨A0, c0, A2, c2, A3, c3, A4, c4, rfl, l0, g0, l2, g2, l3, g3, l4, g4⟩ := k39_open hK
 obtain ⟨B0, d0, B2, d2, B3, d3, B4, d4, rfl, m0, h0, m2, h2, m3, h3, m4, h4⟩ := k39_open hK2
 obtain ⟨res, hres⟩ : ∃ r, sameStp x y = r := ⟨_, rfl⟩
 have hv : sameStp x y = ((eqL txQ x.f0 y.f0) && (samePt x.f1 y.f1)) := rfl
 rw [hres]
 have HR : Aside0 (((eqL txQ x.f0 y.f0) && (samePt x.f1 y.f1)) = res) := ⟨hv.symm.trans hres⟩
 have L0 := Aside0.mk l0
 have G0 := Aside0.mk g0
 have L2 := Aside0.mk l2
 have G2 := Aside0.mk g2
 have L3 := Aside0.mk l3
 have G3 := Aside0.mk g3
 have L4 := Aside0.mk l4
 have G4 := Aside0.mk g4
 have M0 := Aside0.mk m0
 have H0 := Aside0.mk h0
 have M2 := Aside0.mk m2
 have H2 := Aside0.mk h2
 have M3 := Aside0.mk m3
 have H3 := Aside0.mk h3
 have M4 := Aside0.mk m4
 have H4 := Aside0.mk h4
 have HB := Aside0.mk hB
 clear hB hK hK2 hres hv l0 g0 l2 g2 l3 g3 l4 g4 m0 h0 m2 h2 m3 h3 m4 h4
 have hr := HR.out
 have HR2 := Aside0.mk hr
 clear hr HR
 obtain ⟨w1, hw1⟩ : ∃ w1, (W.alloc (.cells #[.slice A0 x.f0.length c0, .int .i64 x.f1.f0, .slice A2 x.f1.f1.length c2, .slice A3 x.f1.f2.length c3, .slice A4 x.f1.f3.length c4] 39)).alloc (.cells #[.slice B0 y.f0.length d0, .int .i64 y.f1.f0, .slice B2 y.f1.f1.length d2, .slice B3 y.f1.f2.length d3, .slice B4 y.f1.f3.length d4] 39) = w1 := ⟨_, rfl⟩
 have HB1 : Aside0 (Below W.heap.size W w1) := ⟨hw1 ▸ below_alloc (below1 W _) _⟩
 have hn1 : w1.heap[W.heap.size]? = some (.cells #[.slice A0 x.f0.length c0, .int .i64 x.f1.f0, .slice A2 x.f1.f1.length c2, .slice A3 x.f1.f2.length c3, .slice A4 x.f1.f3.length c4] 39 (0, 0)) := by rw [← hw1]; exact blk_alloc (blk_new _ _) _
 have hn2 : w1.heap[W.heap.size + 1]? = some (.cells #[.slice B0 y.f0.length d0, .int .i64 y.f1.f0, .slice B2 y.f1.f1.length d2, .slice B3 y.f1.f2.length d3, .slice B4 y.f1.f3.length d4] 39 (0, 0)) := by
  have h := blk_new (W.alloc (.cells #[.slice A0 x.f0.length c0, .int .i64 x.f1.f0, .slice A2 x.f1.f1.length c2, .slice A3 x.f1.f2.length c3, .slice A4 x.f1.f3.length c4] 39)) (.cells #[.slice B0 y.f0.length d0, .int .i64 y.f1.f0, .slice B2 y.f1.f1.length d2, .slice B3 y.f1.f2.length d3, .slice B4 y.f1.f3.length d4] 39)
  rw [hw1] at h
  simpa using h
 have HN1 := Aside0.mk hn1
 have HN2 := Aside0.mk hn2
 have y0 : w1.cell? ⟨W.heap.size, 0, none⟩ = some (.slice A0 x.f0.length c0) := (blk_cell hn1 0).trans rfl
 have z0 : w1.cell? ⟨W.heap.size + 1, 0, none⟩ = some (.slice B0 y.f0.length d0) := (blk_cell hn2 0).trans rfl
 have y1 : w1.cell? ⟨W.heap.size, 1, none⟩ = some (.int .i64 x.f1.f0) := (blk_cell hn1 1).trans rfl
 have z1 : w1.cell? ⟨W.heap.size + 1, 1, none⟩ = some (.int .i64 y.f1.f0) := (blk_cell hn2 1).trans rfl
 have y2 : w1.cell? ⟨W.heap.size, 2, none⟩ = some (.slice A2 x.f1.f1.length c2) := (blk_cell hn1 2).trans rfl
 have z2 : w1.cell? ⟨W.heap.size + 1, 2, none⟩ = some (.slice B2 y.f1.f1.length d2) := (blk_cell hn2 2).trans rfl
 have y3 : w1.cell? ⟨W.heap.size, 3, none⟩ = some (.slice A3 x.f1.f2.length c3) := (blk_cell hn1 3).trans rfl
 have z3 : w1.cell? ⟨W.heap.size + 1, 3, none⟩ = some (.slice B3 y.f1.f2.length d3) := (blk_cell hn2 3).trans rfl
 have y4 : w1.cell? ⟨W.heap.size, 4, none⟩ = some (.slice A4 x.f1.f3.length c4) := (blk_cell hn1 4).trans rfl
 have z4 : w1.cell? ⟨W.heap.size + 1, 4, none⟩ = some (.slice B4 y.f1.f3.length d4) := (blk_cell hn2 4).trans rfl
 clear hn1 hn2
 go_enter Tryd.func51, Tryd.ntmps51
 go_wp2_with fail
 clear hw1
 have qb := join_below HB.out HB1.out
 refine (eqtx_any x.f0 y.f0 A0 B0 c0 d0 _ (Kd.C_below G0.out qb) (Kd.C_below H0.out qb) L0.out M0.out).mono ?_
 rintro e w2 ⟨rfl, hb⟩
 have HB2 := Aside0.mk (join_below HB1.out hb)
 have hr := HR2.out
 have HN1 := Aside0.mk (blk_below HN1.out hb)
 have HN2 := Aside0.mk (blk_below HN2.out hb)
 have y1 : w2.cell? ⟨W.heap.size, 1, none⟩ = some (.int .i64 x.f1.f0) := (blk_cell HN1.out 1).trans rfl
 have z1 : w2.cell? ⟨W.heap.size + 1, 1, none⟩ = some (.int .i64 y.f1.f0) := (blk_cell HN2.out 1).trans rfl
 have y2 : w2.cell? ⟨W.heap.size, 2, none⟩ = some (.slice A2 x.f1.f1.length c2) := (blk_cell HN1.out 2).trans rfl
 have z2 : w2.cell? ⟨W.heap.size + 1, 2, none⟩ = some (.slice B2 y.f1.f1.length d2) := (blk_cell HN2.out 2).trans rfl
 have y3 : w2.cell? ⟨W.heap.size, 3, none⟩ = some (.slice A3 x.f1.f2.length c3) := (blk_cell HN1.out 3).trans rfl
 have z3 : w2.cell? ⟨W.heap.size + 1, 3, none⟩ = some (.slice B3 y.f1.f2.length d3) := (blk_cell HN2.out 3).trans rfl
 have y4 : w2.cell? ⟨W.heap.size, 4, none⟩ = some (.slice A4 x.f1.f3.length c4) := (blk_cell HN1.out 4).trans rfl
 have z4 : w2.cell? ⟨W.heap.size + 1, 4, none⟩ = some (.slice B4 y.f1.f3.length d4) := (blk_cell HN2.out 4).trans rfl
 clear hb qb
 cases hq : eqL txQ x.f0 y.f0
 · rw [hq, Bool.false_and] at hr
   have HF := Aside0.mk hr
   clear hr hq
   go_wp2
   go_ret
   exact ⟨by rw [← HF.out]; rfl, HB2.out⟩
 · rw [hq, Bool.true_and] at hr
   have HR2 := Aside0.mk hr
   clear hr hq
   go_wp2_with fail
   have qb := join_below HB.out HB2.out
   refine (same_pt x.f1 y.f1 w0 _ _ _ qb (k37_mk w0 x.f1 L2.out G2.out L3.out G3.out L4.out G4.out) (k37_mk w0 y.f1 M2.out H2.out M3.out H3.out M4.out H4.out)).mono ?_
   rintro e w3 ⟨rfl, hb⟩
   have HB3 := Aside0.mk (join_below HB2.out hb)
   have hr := HR2.out
   have HF := Aside0.mk hr
   clear hr hb qb
   go_wp2
   go_ret
   exact ⟨by rw [← HF.out]; rfl, HB3.out⟩
set_option maxHeartbeats 2000000 in
set_option maxRecDepth 100000 in
theorem same_rul (x y : Rul) (w0 W : World) (cs ds : List Value) (hB : Below w0.heap.size w0 W) (hK : k32.K w0 x cs) (hK2 : k32.K w0 y ds) :
 Calls Tryd.prog 39 #[.agg cs.toArray, .agg ds.toArray] W fun e W' => e = .returned (.bool (sameRul x y)) ∧ Below W.heap.size W W' := by
 obtain ⟨A2, c2, rfl, l2, g2⟩ := k32_open hK
 obtain ⟨B2, d2, rfl, m2, h2⟩ := k32_open hK2
 obtain ⟨res, hres⟩ : ∃ r, sameRul x y = r := ⟨_, rfl⟩
 have hv : sameRul x y = ((x.f0 == y.f0) && ((x.f1 == y.f1) && (eqL sameStp x.f2 y.f2))) := rfl
 rw [hres]
 have HR : Aside0 (((x.f0 == y.f0) && ((x.f1 == y.f1) && (eqL sameStp x.f2 y.f2))) = res) := ⟨hv.symm.trans hres⟩
 have L2 := Aside0.mk l2
 have G2 := Aside0.mk g2
 have M2 := Aside0.mk m2
 have H2 := Aside0.mk h2
 have HB := Aside0.mk hB
 clear hB hK hK2 hres hv l2 g2 m2 h2
 by_cases q0 : (x.f0 == y.f0) = true
 rotate_left
 · have hr := HR.out
   rw [Bool.not_eq_true] at q0
   rw [q0, Bool.false_and] at hr
   have HF := Aside0.mk hr
   clear hr HR
   go_enter Tryd.func39, Tryd.ntmps39
   go_wp2
   go_ret
   exact ⟨by rw [← HF.out]; rfl, below_alloc (below1 _ _) _⟩
 by_cases q1 : (x.f1 == y.f1) = true
 rotate_left
 · have hr := HR.out
   rw [Bool.not_eq_true] at q1
   rw [q0, Bool.true_and, q1, Bool.false_and] at hr
   have HF := Aside0.mk hr
   clear hr HR
   go_enter Tryd.func39, Tryd.ntmps39
   go_wp2
   go_ret
   exact ⟨by rw [← HF.out]; rfl, below_alloc (below1 _ _) _⟩
 have hr := HR.out
 rw [q0, Bool.true_and, q1, Bool.true_and] at hr
 have HR2 := Aside0.mk hr
 clear hr HR
 obtain ⟨w1, hw1⟩ : ∃ w1, (W.alloc (.cells #[.int .i64 x.f0, .bool x.f1, .slice A2 x.f2.length c2] 32)).alloc (.cells #[.int .i64 y.f0, .bool y.f1, .slice B2 y.f2.length d2] 32) = w1 := ⟨_, rfl⟩
 have HB1 : Aside0 (Below W.heap.size W w1) := ⟨hw1 ▸ below_alloc (below1 W _) _⟩
 have hn1 : w1.heap[W.heap.size]? = some (.cells #[.int .i64 x.f0, .bool x.f1, .slice A2 x.f2.length c2] 32 (0, 0)) := by rw [← hw1]; exact blk_alloc (blk_new _ _) _
 have hn2 : w1.heap[W.heap.size + 1]? = some (.cells #[.int .i64 y.f0, .bool y.f1, .slice B2 y.f2.length d2] 32 (0, 0)) := by
  have h := blk_new (W.alloc (.cells #[.int .i64 x.f0, .bool x.f1, .slice A2 x.f2.length c2] 32)) (.cells #[.int .i64 y.f0, .bool y.f1, .slice B2 y.f2.length d2] 32)
  rw [hw1] at h
  simpa using h
 have HN1 := Aside0.mk hn1
 have HN2 := Aside0.mk hn2
 have y0 : w1.cell? ⟨W.heap.size, 0, none⟩ = some (.int .i64 x.f0) := (blk_cell hn1 0).trans rfl
 have z0 : w1.cell? ⟨W.heap.size + 1, 0, none⟩ = some (.int .i64 y.f0) := (blk_cell hn2 0).trans rfl
 have y1 : w1.cell? ⟨W.heap.size, 1, none⟩ = some (.bool x.f1) := (blk_cell hn1 1).trans rfl
 have z1 : w1.cell? ⟨W.heap.size + 1, 1, none⟩ = some (.bool y.f1) := (blk_cell hn2 1).trans rfl
 have y2 : w1.cell? ⟨W.heap.size, 2, none⟩ = some (.slice A2 x.f2.length c2) := (blk_cell hn1 2).trans rfl
 have z2 : w1.cell? ⟨W.heap.size + 1, 2, none⟩ = some (.slice B2 y.f2.length d2) := (blk_cell hn2 2).trans rfl
 clear hn1 hn2
 go_enter Tryd.func39, Tryd.ntmps39
 go_wp2_with fail
 clear hw1
 have qb := join_below HB.out HB1.out
 refine (stps_equal sameStp x.f2 y.f2 A2 B2 c2 d2 w0 _ G2.out H2.out qb (fun a b cs ds W' _ _ hB' hK hK2 => same_stp a b w0 W' cs ds hB' hK hK2)).mono ?_
 rintro e w2 ⟨rfl, hb⟩
 have HB2 := Aside0.mk (join_below HB1.out hb)
 have hr := HR2.out
 have HF := Aside0.mk hr
 clear hr hb qb
 go_wp2
 go_ret
 exact ⟨by rw [← HF.out]; rfl, HB2.out⟩
set_option maxHeartbeats 2000000 in
set_option maxRecDepth 100000 in
theorem same_tok (x y : Tok) (w0 W : World) (cs ds : List Value) (hB : Below w0.heap.size w0 W) (hK : k50.K w0 x cs) (hK2 : k50.K w0 y ds) :
 Calls Tryd.prog 36 #[.agg cs.toArray, .agg ds.toArray] W fun e W' => e = .returned (.bool (sameTok x y)) ∧ Below W.heap.size W W' := by
 obtain ⟨A4, c4, A5, c5, rfl, l4, g4, l5, g5⟩ := k50_open hK
 obtain ⟨B4, d4, B5, d5, rfl, m4, h4, m5, h5⟩ := k50_open hK2
 obtain ⟨res, hres⟩ : ∃ r, sameTok x y = r := ⟨_, rfl⟩
 have hv : sameTok x y = ((x.f0.toList == y.f0.toList) && ((x.f1 == y.f1) && ((x.f2 == y.f2) && (sameRe x.f3 y.f3)))) := rfl
 rw [hres]
 have HR : Aside0 (((x.f0.toList == y.f0.toList) && ((x.f1 == y.f1) && ((x.f2 == y.f2) && (sameRe x.f3 y.f3)))) = res) := ⟨hv.symm.trans hres⟩
 have L4 := Aside0.mk l4
 have G4 := Aside0.mk g4
 have L5 := Aside0.mk l5
 have G5 := Aside0.mk g5
 have M4 := Aside0.mk m4
 have H4 := Aside0.mk h4
 have M5 := Aside0.mk m5
 have H5 := Aside0.mk h5
 have HB := Aside0.mk hB
 clear hB hK hK2 hres hv l4 g4 l5 g5 m4 h4 m5 h5
 by_cases q0 : (x.f0.toList == y.f0.toList) = true
 rotate_left
 · have hr := HR.out
   rw [Bool.not_eq_true] at q0
   rw [q0, Bool.false_and] at hr
   have HF := Aside0.mk hr
   clear hr HR
   go_enter Tryd.func36, Tryd.ntmps36
   go_wp2
   go_ret
   exact ⟨by rw [← HF.out]; rfl, below_alloc (below1 _ _) _⟩
 by_cases q1 : (x.f1 == y.f1) = true
 rotate_left
 · have hr := HR.out
   rw [Bool.not_eq_true] at q1
   rw [q0, Bool.true_and, q1, Bool.false_and] at hr
   have HF := Aside0.mk hr
   clear hr HR
   go_enter Tryd.func36, Tryd.ntmps36
   go_wp2
   go_ret
   exact ⟨by rw [← HF.out]; rfl, below_alloc (below1 _ _) _⟩
 by_cases q2 : (x.f2 == y.f2) = true
 rotate_left
 · have hr := HR.out
   rw [Bool.not_eq_true] at q2
   rw [q0, Bool.true_and, q1, Bool.true_and, q2, Bool.false_and] at hr
   have HF := Aside0.mk hr
   clear hr HR
   go_enter Tryd.func36, Tryd.ntmps36
   go_wp2
   go_ret
   exact ⟨by rw [← HF.out]; rfl, below_alloc (below1 _ _) _⟩
 have hr := HR.out
 rw [q0, Bool.true_and, q1, Bool.true_and, q2, Bool.true_and] at hr
 have HR2 := Aside0.mk hr
 clear hr HR
 obtain ⟨w1, hw1⟩ : ∃ w1, (W.alloc (.cells #[.string x.f0, .int .i64 x.f1, .int .i64 x.f2, .int .i64 x.f3.f0, .slice A4 x.f3.f1.length c4, .slice A5 x.f3.f2.length c5] 50)).alloc (.cells #[.string y.f0, .int .i64 y.f1, .int .i64 y.f2, .int .i64 y.f3.f0, .slice B4 y.f3.f1.length d4, .slice B5 y.f3.f2.length d5] 50) = w1 := ⟨_, rfl⟩
 have HB1 : Aside0 (Below W.heap.size W w1) := ⟨hw1 ▸ below_alloc (below1 W _) _⟩
 have hn1 : w1.heap[W.heap.size]? = some (.cells #[.string x.f0, .int .i64 x.f1, .int .i64 x.f2, .int .i64 x.f3.f0, .slice A4 x.f3.f1.length c4, .slice A5 x.f3.f2.length c5] 50 (0, 0)) := by rw [← hw1]; exact blk_alloc (blk_new _ _) _
 have hn2 : w1.heap[W.heap.size + 1]? = some (.cells #[.string y.f0, .int .i64 y.f1, .int .i64 y.f2, .int .i64 y.f3.f0, .slice B4 y.f3.f1.length d4, .slice B5 y.f3.f2.length d5] 50 (0, 0)) := by
  have h := blk_new (W.alloc (.cells #[.string x.f0, .int .i64 x.f1, .int .i64 x.f2, .int .i64 x.f3.f0, .slice A4 x.f3.f1.length c4, .slice A5 x.f3.f2.length c5] 50)) (.cells #[.string y.f0, .int .i64 y.f1, .int .i64 y.f2, .int .i64 y.f3.f0, .slice B4 y.f3.f1.length d4, .slice B5 y.f3.f2.length d5] 50)
  rw [hw1] at h
  simpa using h
 have HN1 := Aside0.mk hn1
 have HN2 := Aside0.mk hn2
 have y0 : w1.cell? ⟨W.heap.size, 0, none⟩ = some (.string x.f0) := (blk_cell hn1 0).trans rfl
 have z0 : w1.cell? ⟨W.heap.size + 1, 0, none⟩ = some (.string y.f0) := (blk_cell hn2 0).trans rfl
 have y1 : w1.cell? ⟨W.heap.size, 1, none⟩ = some (.int .i64 x.f1) := (blk_cell hn1 1).trans rfl
 have z1 : w1.cell? ⟨W.heap.size + 1, 1, none⟩ = some (.int .i64 y.f1) := (blk_cell hn2 1).trans rfl
 have y2 : w1.cell? ⟨W.heap.size, 2, none⟩ = some (.int .i64 x.f2) := (blk_cell hn1 2).trans rfl
 have z2 : w1.cell? ⟨W.heap.size + 1, 2, none⟩ = some (.int .i64 y.f2) := (blk_cell hn2 2).trans rfl
 have y3 : w1.cell? ⟨W.heap.size, 3, none⟩ = some (.int .i64 x.f3.f0) := (blk_cell hn1 3).trans rfl
 have z3 : w1.cell? ⟨W.heap.size + 1, 3, none⟩ = some (.int .i64 y.f3.f0) := (blk_cell hn2 3).trans rfl
 have y4 : w1.cell? ⟨W.heap.size, 4, none⟩ = some (.slice A4 x.f3.f1.length c4) := (blk_cell hn1 4).trans rfl
 have z4 : w1.cell? ⟨W.heap.size + 1, 4, none⟩ = some (.slice B4 y.f3.f1.length d4) := (blk_cell hn2 4).trans rfl
 have y5 : w1.cell? ⟨W.heap.size, 5, none⟩ = some (.slice A5 x.f3.f2.length c5) := (blk_cell hn1 5).trans rfl
 have z5 : w1.cell? ⟨W.heap.size + 1, 5, none⟩ = some (.slice B5 y.f3.f2.length d5) := (blk_cell hn2 5).trans rfl
 clear hn1 hn2
 go_enter Tryd.func36, Tryd.ntmps36
 go_wp2_with fail
 clear hw1
 have qb := join_below HB.out HB1.out
 refine (same_re x.f3 y.f3 w0 _ _ _ qb (k48_mk w0 x.f3 L4.out G4.out L5.out G5.out) (k48_mk w0 y.f3 M4.out H4.out M5.out H5.out)).mono ?_
 rintro e w2 ⟨rfl, hb⟩
 have HB2 := Aside0.mk (join_below HB1.out hb)
 have hr := HR2.out
 have HF := Aside0.mk hr
 clear hr hb qb
 go_wp2
 go_ret
 exact ⟨by rw [← HF.out]; rfl, HB2.out⟩
def sameS (T : List Tok) (R : List Rul) (T' : List Tok) (R' : List Rul) : Bool := eqL sameTok T T' && eqL sameRul R R'
set_option maxHeartbeats 2000000 in
set_option maxRecDepth 100000 in
theorem same_any (T T' : List Tok) (R R' : List Rul) (A0 A1 B0 B1 : Option Addr) (c0 c1 d0 d1 : Nat) (W : World) (hA0 : kTok.C W A0 T.length T) (hA1 : kRul.C W A1 R.length R) (hB0 : kTok.C W B0 T'.length T') (hB1 : kRul.C W B1 R'.length R') :
 Calls Tryd.prog 21 #[.agg #[.slice A0 T.length c0, .slice A1 R.length c1], .agg #[.slice B0 T'.length d0, .slice B1 R'.length d1]] W fun e W' => e = .returned (.bool (sameS T R T' R')) ∧ Below W.heap.size W W' := by
 have HG := Aside0.mk (And.intro (And.intro hA0 hA1) (And.intro hB0 hB1))
 obtain ⟨res, hres⟩ : ∃ r, sameS T R T' R' = r := ⟨_, rfl⟩
 rw [hres]
 have HR : Aside0 ((eqL sameTok T T' && eqL sameRul R R') = res) := ⟨hres⟩
 clear hA0 hA1 hB0 hB1 hres
 obtain ⟨w1, hw1⟩ : ∃ w1, (W.alloc (.cells #[.slice A0 T.length c0, .slice A1 R.length c1] 26)).alloc (.cells #[.slice B0 T'.length d0, .slice B1 R'.length d1] 26) = w1 := ⟨_, rfl⟩
 have HB1 : Aside0 (Below W.heap.size W w1) := ⟨hw1 ▸ below_alloc (below1 W _) _⟩
 have hn1 : w1.heap[W.heap.size]? = some (.cells #[.slice A0 T.length c0, .slice A1 R.length c1] 26 (0, 0)) := by rw [← hw1]; exact blk_alloc (blk_new _ _) _
 have hn2 : w1.heap[W.heap.size + 1]? = some (.cells #[.slice B0 T'.length d0, .slice B1 R'.length d1] 26 (0, 0)) := by
  have h := blk_new (W.alloc (.cells #[.slice A0 T.length c0, .slice A1 R.length c1] 26)) (.cells #[.slice B0 T'.length d0, .slice B1 R'.length d1] 26)
  rw [hw1] at h
  simpa using h
 have HN1 := Aside0.mk hn1
 have HN2 := Aside0.mk hn2
 have y0 : w1.cell? ⟨W.heap.size, 0, none⟩ = some (.slice A0 T.length c0) := (blk_cell hn1 0).trans rfl
 have z0 : w1.cell? ⟨W.heap.size + 1, 0, none⟩ = some (.slice B0 T'.length d0) := (blk_cell hn2 0).trans rfl
 clear hn1 hn2
 go_enter Tryd.func21, Tryd.ntmps21
 go_wp2_with fail
 clear hw1
 have qb := HB1.out
 refine (toks_equal sameTok T T' A0 B0 c0 d0 W _ HG.out.1.1 HG.out.2.1 qb (fun a b cs ds W' _ _ hB' hK hK2 => same_tok a b W W' cs ds hB' hK hK2)).mono ?_
 rintro e w2 ⟨rfl, hb⟩
 have HB2 := Aside0.mk (join_below HB1.out hb)
 have hn1 := blk_below HN1.out hb
 have hn2 := blk_below HN2.out hb
 have y1 : w2.cell? ⟨W.heap.size, 1, none⟩ = some (.slice A1 R.length c1) := (blk_cell hn1 1).trans rfl
 have z1 : w2.cell? ⟨W.heap.size + 1, 1, none⟩ = some (.slice B1 R'.length d1) := (blk_cell hn2 1).trans rfl
 clear hn1 hn2 hb qb y0 z0
 have hr := HR.out
 cases hq : eqL sameTok T T'
 · rw [hq, Bool.false_and] at hr
   have HF := Aside0.mk hr
   clear hr hq
   go_wp2
   go_ret
   exact ⟨by rw [← HF.out]; rfl, HB2.out⟩
 · rw [hq, Bool.true_and] at hr
   have HF := Aside0.mk hr
   clear hr hq
   go_wp2_with fail
   refine (ruls_equal sameRul R R' A1 B1 c1 d1 W _ HG.out.1.2 HG.out.2.2 HB2.out (fun a b cs ds W' _ _ hB' hK hK2 => same_rul a b W W' cs ds hB' hK hK2)).mono ?_
   rintro e w3 ⟨rfl, hb⟩
   have HB3 := Aside0.mk (join_below HB2.out hb)
   clear hb
   go_wp2
   go_ret
   exact ⟨by rw [← HF.out]; rfl, HB3.out⟩
end Go.Proofs.YthdfmbmbjpmlaaaDoor.Rn
end
section
set_option linter.unusedVariables false
set_option linter.unusedSimpArgs false
namespace Go.Proofs.YthdfmbmbjpmlaaaDoor.Rn
open Go Go.RowKit Go.Proofs.YthdfmbmbjpmlaaaDoorW.PrintWords Go.Proofs.YthdfmbmbjpmlaaaDoorW.PrintLast Go.Proofs.YthdfmbmbjpmlaaaDoorW.PrintMore
set_option maxHeartbeats 1000000 in
set_option maxRecDepth 100000 in
theorem empn_index (xs : List S37) (A : Option Addr) (c : Nat)  (I J : Nat → World → Prop) (w0 w : World) (hC : k37.C w0 A xs.length xs) (hB : ∀ i W, I i W → Below w0.heap.size w0 W)
 (hstep : ∀ i x cs W, xs[i]? = some x → I i W → k37.K w0 x cs → Calls Tryd.prog 23 #[.agg cs.toArray] W (CbPost (J i) (I (i + 1)))) (h0 : I 0 w) :
 Calls Tryd.prog 40 #[.slice A xs.length c, .func (.func 23) #[] #[]] w (IdxPost xs.length I J) := by
 have hl : xs.length ≤ 9223372036854775807 := hC.2.1
 have HC := Aside0.mk hC
 have HB := Aside0.mk hB
 have HS := Aside0.mk hstep
 have H0 := Aside0.mk h0
 clear hC hB hstep h0
 go_enter Tryd.func40, Tryd.ntmps40
 go_wp2
 go_loopw [8] (fun i W => ∃ k : Nat, i = .int .i64 k ∧ k ≤ xs.length ∧ Aside0 (I k W)) (fun i _ => xs.length - (intOf i).toNat)
 case atStart => exact ⟨0, rfl, Nat.zero_le _, H0⟩
 case round =>
  obtain ⟨k, rfl, hkl, HI⟩ := hrel
  by_cases hlt : k < xs.length
  · obtain ⟨g, o, rfl, _, hcell⟩ := row_cells HC.out (by omega) (by decide)
    obtain ⟨x, hx⟩ : ∃ x, xs[k]? = some x := ⟨_, List.getElem?_eq_getElem hlt⟩
    obtain ⟨cs, hcl, hK, hcc⟩ := hcell k x hx
    have HK := Aside0.mk hK
    obtain ⟨A1, c1, A2, c2, A3, c3, rfl, l1, g1, l2, g2, l3, g3⟩ := k37_open hK
    have y0 := cell_after (HB.out k _ HI.out) (hcc 0 (.int .i64 x.f0) rfl)
    rw [Nat.add_zero] at y0
    have y1 := cell_after (HB.out k _ HI.out) (hcc 1 (.slice A1 x.f1.length c1) rfl)
    have y2 := cell_after (HB.out k _ HI.out) (hcc 2 (.slice A2 x.f2.length c2) rfl)
    have y3 := cell_after (HB.out k _ HI.out) (hcc 3 (.slice A3 x.f3.length c3) rfl)
    simp only [show k37.sz = 4 from rfl] at y0 y1 y2 y3
    have HX := Aside0.mk hx
    clear hcell hcc hx hK hcl
    go_wp2_with fail
    refine (HS.out k x _ _ HX.out HI.out HK.out).mono ?_
    rintro e w2 hp
    rcases hp with ⟨rfl, hj⟩ | ⟨rfl, hi⟩
    · have HJ := Aside0.mk hj
      clear hj
      go_wp2
      go_ret
      exact Or.inl ⟨k, hlt, rfl, HJ.out⟩
    · have HI2 := Aside0.mk hi
      clear hi
      go_wp2
      go_roundw
      case rel => exact ⟨k + 1, by go_num, by omega, HI2⟩
      case measure => simp [intOf]; omega
  · obtain ⟨n, hn⟩ : ∃ n, xs.length = n := ⟨_, rfl⟩
    have e : k = xs.length := by omega
    have HI2 : Aside0 (I xs.length _) := ⟨e ▸ HI.out⟩
    clear e hn n
    go_wp2
    go_ret
    exact Or.inr ⟨rfl, HI2.out⟩
set_option maxHeartbeats 1000000 in
theorem empn_contains (xs : List S37) (A : Option Addr) (c : Nat)  (I J : Nat → World → Prop) (w0 w : World) (hC : k37.C w0 A xs.length xs) (hB : ∀ i W, I i W → Below w0.heap.size w0 W)
 (hstep : ∀ i x cs W, xs[i]? = some x → I i W → k37.K w0 x cs → Calls Tryd.prog 23 #[.agg cs.toArray] W (CbPost (J i) (I (i + 1)))) (h0 : I 0 w) :
 Calls Tryd.prog 22 #[.slice A xs.length c, .func (.func 23) #[] #[]] w (ConPost xs.length I J) := by
 have hl : xs.length ≤ 9223372036854775807 := hC.2.1
 have HC := Aside0.mk hC
 have HB := Aside0.mk hB
 have HS := Aside0.mk hstep
 have H0 := Aside0.mk h0
 clear hC hB hstep h0
 go_enter Tryd.func22, Tryd.ntmps22
 go_wp2_with fail
 refine (empn_index xs A c  I J w0 _ HC.out HB.out HS.out H0.out).mono ?_
 rintro e w2 hp
 rcases hp with ⟨i, hi, rfl, hj⟩ | ⟨rfl, hi⟩
 · have HJ := Aside0.mk hj
   have h0 : (0 : Int) ≤ (i : Int) := by omega
   clear hj
   go_wp2
   go_ret
   exact Or.inl ⟨rfl, i, hi, HJ.out⟩
 · have HI := Aside0.mk hi
   clear hi
   go_wp2
   go_ret
   exact Or.inr ⟨rfl, HI.out⟩
theorem empn_any (q : S37 → Bool) (xs : List S37) (A : Option Addr) (c : Nat)  (w0 w : World) (hC : k37.C w0 A xs.length xs) (hw : Below w0.heap.size w0 w)
 (hq : ∀ x cs W, x ∈ xs → Below w.heap.size w W → k37.K w0 x cs → Calls Tryd.prog 23 #[.agg cs.toArray] W fun e W' => e = .returned (.bool (q x)) ∧ Below W.heap.size W W') :
 Calls Tryd.prog 22 #[.slice A xs.length c, .func (.func 23) #[] #[]] w fun e W' => e = .returned (.bool (xs.any q)) ∧ Below w.heap.size w W' := by
 refine (empn_contains xs A c  (fun i W => Below w.heap.size w W ∧ (xs.take i).any q = false) (fun _ W => Below w.heap.size w W ∧ xs.any q = true) w0 w hC (fun i W h => join_below hw h.1) (fun i y cs W hy hI hK => ?_) ⟨Below.refl _ _, rfl⟩).mono ?_
 · refine (hq y cs W (List.mem_of_getElem? hy) hI.1 hK).mono ?_
   rintro e W2 ⟨rfl, hb2⟩
   have hb3 := join_below hI.1 hb2
   cases hb : q y
   · exact Or.inr ⟨rfl, hb3, by rw [List.take_add_one, hy, List.any_append, hI.2]; simp [hb]⟩
   · exact Or.inl ⟨rfl, hb3, List.any_eq_true.2 ⟨y, List.mem_of_getElem? hy, hb⟩⟩
 · rintro e W2 hp
   rcases hp with ⟨rfl, _, _, hb, hm⟩ | ⟨rfl, hb, hm⟩
   · exact ⟨by rw [hm], hb⟩
   · rw [List.take_length] at hm
     exact ⟨by rw [hm], hb⟩
set_option maxHeartbeats 1000000 in
set_option maxRecDepth 100000 in
theorem empy_index (xs : List S37) (A : Option Addr) (c : Nat)  (I J : Nat → World → Prop) (w0 w : World) (hC : k37.C w0 A xs.length xs) (hB : ∀ i W, I i W → Below w0.heap.size w0 W)
 (hstep : ∀ i x cs W, xs[i]? = some x → I i W → k37.K w0 x cs → Calls Tryd.prog 11 #[.agg cs.toArray] W (CbPost (J i) (I (i + 1)))) (h0 : I 0 w) :
 Calls Tryd.prog 40 #[.slice A xs.length c, .func (.func 11) #[] #[]] w (IdxPost xs.length I J) := by
 have hl : xs.length ≤ 9223372036854775807 := hC.2.1
 have HC := Aside0.mk hC
 have HB := Aside0.mk hB
 have HS := Aside0.mk hstep
 have H0 := Aside0.mk h0
 clear hC hB hstep h0
 go_enter Tryd.func40, Tryd.ntmps40
 go_wp2
 go_loopw [8] (fun i W => ∃ k : Nat, i = .int .i64 k ∧ k ≤ xs.length ∧ Aside0 (I k W)) (fun i _ => xs.length - (intOf i).toNat)
 case atStart => exact ⟨0, rfl, Nat.zero_le _, H0⟩
 case round =>
  obtain ⟨k, rfl, hkl, HI⟩ := hrel
  by_cases hlt : k < xs.length
  · obtain ⟨g, o, rfl, _, hcell⟩ := row_cells HC.out (by omega) (by decide)
    obtain ⟨x, hx⟩ : ∃ x, xs[k]? = some x := ⟨_, List.getElem?_eq_getElem hlt⟩
    obtain ⟨cs, hcl, hK, hcc⟩ := hcell k x hx
    have HK := Aside0.mk hK
    obtain ⟨A1, c1, A2, c2, A3, c3, rfl, l1, g1, l2, g2, l3, g3⟩ := k37_open hK
    have y0 := cell_after (HB.out k _ HI.out) (hcc 0 (.int .i64 x.f0) rfl)
    rw [Nat.add_zero] at y0
    have y1 := cell_after (HB.out k _ HI.out) (hcc 1 (.slice A1 x.f1.length c1) rfl)
    have y2 := cell_after (HB.out k _ HI.out) (hcc 2 (.slice A2 x.f2.length c2) rfl)
    have y3 := cell_after (HB.out k _ HI.out) (hcc 3 (.slice A3 x.f3.length c3) rfl)
    simp only [show k37.sz = 4 from rfl] at y0 y1 y2 y3
    have HX := Aside0.mk hx
    clear hcell hcc hx hK hcl
    go_wp2_with fail
    refine (HS.out k x _ _ HX.out HI.out HK.out).mono ?_
    rintro e w2 hp
    rcases hp with ⟨rfl, hj⟩ | ⟨rfl, hi⟩
    · have HJ := Aside0.mk hj
      clear hj
      go_wp2
      go_ret
      exact Or.inl ⟨k, hlt, rfl, HJ.out⟩
    · have HI2 := Aside0.mk hi
      clear hi
      go_wp2
      go_roundw
      case rel => exact ⟨k + 1, by go_num, by omega, HI2⟩
      case measure => simp [intOf]; omega
  · obtain ⟨n, hn⟩ : ∃ n, xs.length = n := ⟨_, rfl⟩
    have e : k = xs.length := by omega
    have HI2 : Aside0 (I xs.length _) := ⟨e ▸ HI.out⟩
    clear e hn n
    go_wp2
    go_ret
    exact Or.inr ⟨rfl, HI2.out⟩
set_option maxHeartbeats 1000000 in
theorem empy_contains (xs : List S37) (A : Option Addr) (c : Nat)  (I J : Nat → World → Prop) (w0 w : World) (hC : k37.C w0 A xs.length xs) (hB : ∀ i W, I i W → Below w0.heap.size w0 W)
 (hstep : ∀ i x cs W, xs[i]? = some x → I i W → k37.K w0 x cs → Calls Tryd.prog 11 #[.agg cs.toArray] W (CbPost (J i) (I (i + 1)))) (h0 : I 0 w) :
 Calls Tryd.prog 22 #[.slice A xs.length c, .func (.func 11) #[] #[]] w (ConPost xs.length I J) := by
 have hl : xs.length ≤ 9223372036854775807 := hC.2.1
 have HC := Aside0.mk hC
 have HB := Aside0.mk hB
 have HS := Aside0.mk hstep
 have H0 := Aside0.mk h0
 clear hC hB hstep h0
 go_enter Tryd.func22, Tryd.ntmps22
 go_wp2_with fail
 refine (empy_index xs A c  I J w0 _ HC.out HB.out HS.out H0.out).mono ?_
 rintro e w2 hp
 rcases hp with ⟨i, hi, rfl, hj⟩ | ⟨rfl, hi⟩
 · have HJ := Aside0.mk hj
   have h0 : (0 : Int) ≤ (i : Int) := by omega
   clear hj
   go_wp2
   go_ret
   exact Or.inl ⟨rfl, i, hi, HJ.out⟩
 · have HI := Aside0.mk hi
   clear hi
   go_wp2
   go_ret
   exact Or.inr ⟨rfl, HI.out⟩
theorem empy_any (q : S37 → Bool) (xs : List S37) (A : Option Addr) (c : Nat)  (w0 w : World) (hC : k37.C w0 A xs.length xs) (hw : Below w0.heap.size w0 w)
 (hq : ∀ x cs W, x ∈ xs → Below w.heap.size w W → k37.K w0 x cs → Calls Tryd.prog 11 #[.agg cs.toArray] W fun e W' => e = .returned (.bool (q x)) ∧ Below W.heap.size W W') :
 Calls Tryd.prog 22 #[.slice A xs.length c, .func (.func 11) #[] #[]] w fun e W' => e = .returned (.bool (xs.any q)) ∧ Below w.heap.size w W' := by
 refine (empy_contains xs A c  (fun i W => Below w.heap.size w W ∧ (xs.take i).any q = false) (fun _ W => Below w.heap.size w W ∧ xs.any q = true) w0 w hC (fun i W h => join_below hw h.1) (fun i y cs W hy hI hK => ?_) ⟨Below.refl _ _, rfl⟩).mono ?_
 · refine (hq y cs W (List.mem_of_getElem? hy) hI.1 hK).mono ?_
   rintro e W2 ⟨rfl, hb2⟩
   have hb3 := join_below hI.1 hb2
   cases hb : q y
   · exact Or.inr ⟨rfl, hb3, by rw [List.take_add_one, hy, List.any_append, hI.2]; simp [hb]⟩
   · exact Or.inl ⟨rfl, hb3, List.any_eq_true.2 ⟨y, List.mem_of_getElem? hy, hb⟩⟩
 · rintro e W2 hp
   rcases hp with ⟨rfl, _, _, hb, hm⟩ | ⟨rfl, hb, hm⟩
   · exact ⟨by rw [hm], hb⟩
   · rw [List.take_length] at hm
     exact ⟨by rw [hm], hb⟩
mutual
/-- may a pattern be of nothing -/
def empP : Pt → Bool
 | ⟨a, _, _, l⟩ => if a = 1 ∨ a = 4 ∨ a = 7 then true else if a = 5 then !empN l else if a = 6 then empY l else false
def empN : List Pt → Bool
 | [] => false
 | x :: l => !empP x || empN l
def empY : List Pt → Bool
 | [] => false
 | x :: l => empP x || empY l
end
theorem empN_eq : ∀ l : List Pt, empN l = l.any (fun x => !empP x)
 | [] => by simp only [empN, List.any_nil]
 | x :: l => by
  simp only [empN, List.any_cons]
  rw [empN_eq l]
theorem empY_eq : ∀ l : List Pt, empY l = l.any empP
 | [] => by simp only [empY, List.any_nil]
 | x :: l => by
  simp only [empY, List.any_cons]
  rw [empY_eq l]
def EmpC (x : Pt) : Prop := ∀ (w0 W : World) (cs : List Value), Below w0.heap.size w0 W → kPt.K w0 x cs → Calls Tryd.prog 11 #[.agg cs.toArray] W fun e W' => e = .returned (.bool (empP x)) ∧ Below W.heap.size W W'
set_option maxHeartbeats 1000000 in
theorem emp_part {x : Pt} (hx : EmpC x) (w0 W : World) (cs : List Value) (hB : Below w0.heap.size w0 W) (hK : kPt.K w0 x cs) :
 Calls Tryd.prog 23 #[.agg cs.toArray] W fun e W' => e = .returned (.bool (!empP x)) ∧ Below W.heap.size W W' := by
 have HX := Aside0.mk hx
 have HK := Aside0.mk hK
 obtain ⟨A1, c1, A2, c2, A3, c3, rfl, _, _, _, _, _, _⟩ := k37_open hK
 have HB : Aside0 (∀ o, Below w0.heap.size w0 (W.alloc o)) := ⟨fun o => below_alloc hB o⟩
 clear hK hx hB
 go_enter Tryd.func23, Tryd.ntmps23
 go_wp2_with fail
 refine (HX.out w0 _ _ (HB.out _) HK.out).mono ?_
 rintro e w2 ⟨rfl, hb⟩
 have HB2 := Aside0.mk (join_below (below1 W _) hb)
 clear hb
 go_wp2
 go_ret
 exact ⟨rfl, HB2.out⟩
set_option maxHeartbeats 2000000 in
set_option maxRecDepth 100000 in
theorem emp_go (x : Pt) (hx : ∀ y, y ∈ x.f3 → EmpC y) : EmpC x := by
 intro w0 W cs hB hK
 obtain ⟨A1, c1, A2, c2, A3, c3, rfl, l1, g1, l2, g2, l3, g3⟩ := k37_open hK
 obtain ⟨res, hres⟩ : ∃ r, empP x = r := ⟨_, rfl⟩
 have hv : empP x = if x.f0 = 1 ∨ x.f0 = 4 ∨ x.f0 = 7 then true else if x.f0 = 5 then !x.f3.any (fun y => !empP y) else if x.f0 = 6 then x.f3.any empP else false := by
  cases x
  rw [empP, empN_eq, empY_eq]
 rw [hres]
 rw [hres] at hv
 have HR := Aside0.mk hv
 have HB := Aside0.mk hB
 have HC := Aside0.mk g3
 have HX := Aside0.mk hx
 clear hB hK hx g1 g2 g3 l1 l2 l3 hres hv
 generalize hf0 : x.f0 = a at HR
 have HF0 := Aside0.mk hf0
 clear hf0
 by_cases c1' : a = 1
 · have hr := HR.out
   subst c1'
   rw [if_pos (by omega)] at hr
   subst hr
   clear HR
   have hf := HF0.out
   go_enter Tryd.func11, Tryd.ntmps11
   go_wp2
   go_ret
   exact ⟨rfl, below1 _ _⟩
 by_cases c4' : a = 4
 · have hr := HR.out
   subst c4'
   rw [if_pos (by omega)] at hr
   subst hr
   clear HR
   have hf := HF0.out
   go_enter Tryd.func11, Tryd.ntmps11
   go_wp2
   go_ret
   exact ⟨rfl, below1 _ _⟩
 by_cases c7' : a = 7
 · have hr := HR.out
   subst c7'
   rw [if_pos (by omega)] at hr
   subst hr
   clear HR
   have hf := HF0.out
   go_enter Tryd.func11, Tryd.ntmps11
   go_wp2
   go_ret
   exact ⟨rfl, below1 _ _⟩
 by_cases c5' : a = 5
 · have hr := HR.out
   subst c5'
   rw [if_neg (by omega), if_pos rfl] at hr
   have HR2 := Aside0.mk hr
   clear hr HR
   have hf := HF0.out
   go_enter Tryd.func11, Tryd.ntmps11
   go_wp2_with fail
   refine (empn_any (fun y => !empP y) x.f3 A3 c3 w0 _ HC.out (below_alloc HB.out _) (fun y cs W' hy hb hK => emp_part (HX.out y hy) w0 W' cs (join_below (below_alloc HB.out _) hb) hK)).mono ?_
   rintro e w2 ⟨rfl, hb⟩
   have HB2 := Aside0.mk (join_below (below1 W _) hb)
   clear hb
   go_wp2
   go_ret
   exact ⟨by rw [HR2.out]; rfl, HB2.out⟩
 by_cases c6' : a = 6
 · have hr := HR.out
   subst c6'
   rw [if_neg (by omega), if_neg (by omega), if_pos rfl] at hr
   have HR2 := Aside0.mk hr
   clear hr HR
   have hf := HF0.out
   go_enter Tryd.func11, Tryd.ntmps11
   go_wp2_with fail
   refine (empy_any empP x.f3 A3 c3 w0 _ HC.out (below_alloc HB.out _) (fun y cs W' hy hb hK => HX.out y hy w0 W' cs (join_below (below_alloc HB.out _) hb) hK)).mono ?_
   rintro e w2 ⟨rfl, hb⟩
   have HB2 := Aside0.mk (join_below (below1 W _) hb)
   clear hb
   go_wp2
   go_ret
   exact ⟨by rw [HR2.out]; rfl, HB2.out⟩
 have hr := HR.out
 rw [if_neg (by omega), if_neg c5', if_neg c6'] at hr
 subst hr
 clear HR
 have h1 : (a == 1) = false := beq_eq_false_iff_ne.2 c1'
 have h4 : (a == 4) = false := beq_eq_false_iff_ne.2 c4'
 have h7 : (a == 7) = false := beq_eq_false_iff_ne.2 c7'
 have h5 : (a == 5) = false := beq_eq_false_iff_ne.2 c5'
 have h6 : (a == 6) = false := beq_eq_false_iff_ne.2 c6'
 clear c1' c4' c7' c5' c6'
 go_enter Tryd.func11, Tryd.ntmps11
 go_wp2
 go_ret
 exact ⟨rfl, below1 _ _⟩
theorem emp_all : ∀ (N : Nat) (x : Pt), SizeOf.sizeOf x < N → EmpC x
 | 0, x, h => absurd h (Nat.not_lt_zero _)
 | N + 1, x, h => emp_go x (fun y hy => emp_all N y (by
     have h1 := List.sizeOf_lt_of_mem hy
     have h2 : SizeOf.sizeOf x.f3 < SizeOf.sizeOf x := by
      cases x
      simp
      omega
     omega))
theorem emp_any (x : Pt) : EmpC x := emp_all (SizeOf.sizeOf x + 1) x (Nat.lt_succ_self _)
end Go.Proofs.YthdfmbmbjpmlaaaDoor.Rn
end
section
set_option linter.unusedVariables false
set_option linter.unusedSimpArgs false
namespace Go.Proofs.YthdfmbmbjpmlaaaDoor.Rn
open Go Go.RowKit Go.Proofs.YthdfmbmbjpmlaaaDoorW.PrintWords Go.Proofs.YthdfmbmbjpmlaaaDoorW.PrintLast Go.Proofs.YthdfmbmbjpmlaaaDoorW.PrintMore
theorem n_empty {α : Type} (k : Kd α) (e : TypeId) {W : World} {b base : Nat} {ok : Nat → Prop} {t : TypeId} (h : W.heap[b]? = some (.cells #[] t (0, 0))) (he : e = t) (hb : base ≤ b) (hok : ok b) :
 Kd.N k e W base ok (.slice (some ⟨b, 0, none⟩) 0 0) [] := by
 subst he
 refine ⟨fun q hq => ?_, [], rfl, ⟨fun q hq => hq.symm, [], ⟨by simp, Or.inr ⟨b, 0, #[], rfl, hb, h, Nat.le_refl _, by unfold maxLen; omega, by simp, by simp⟩⟩, Reps.none _ _⟩, fun j x c hx _ => by simp at hx⟩
 have hq : some b = some q := hq
 injection hq with hq
 exact hq ▸ hok
theorem f_one {α : Type} {k : Kd α} {W : World} {b : Nat} {ok : Nat → Prop} {x : α} {c : List Value} {t : TypeId} {cs : Array Value} (h : W.heap[b]? = some (.cells cs t (0, 0))) (hcs : cs = c.toArray) (hK : Kd.FK k W ok x c) :
 Kd.F k W (fun q => q = b ∨ ok q) (some ⟨b, 0, none⟩) 1 [x] := fun W' hW => by
 have h2 := (hW b (Or.inl rfl) (blk_lt h)).trans h
 have hK2 := hK W' (fun q hq => hW q (Or.inr hq))
 refine row_new h2 (show 1 ≤ _ from by omega) (fun j y hy => ?_)
 match j, hy with
 | 0, hy =>
  obtain rfl := Option.some.inj hy
  refine ⟨c, k.K_len hK2, hK2, fun i u hu => ?_⟩
  rw [hcs]
  simpa using hu
 | j + 1, hy => simp at hy
end Go.Proofs.YthdfmbmbjpmlaaaDoor.Rn
end
section
set_option linter.unusedVariables false
set_option linter.unusedSimpArgs false
namespace Go.Proofs.YthdfmbmbjpmlaaaDoor.Rn
open Go Go.RowKit Go.Proofs.YthdfmbmbjpmlaaaDoorW.PrintWords Go.Proofs.YthdfmbmbjpmlaaaDoorW.PrintLast Go.Proofs.YthdfmbmbjpmlaaaDoorW.PrintMore
def ChkC (T : List Tok) (R : List Rul) (c n : Int) : Prop := ∀ (AT : Option Addr) (ct : Nat) (AR : Option Addr) (cr : Nat) (W : World), kTok.C W AT T.length T → kRul.C W AR R.length R → OwnAt W →
    Calls Tryd.prog 15 #[.agg #[.slice AT T.length ct, .slice AR R.length cr]] W fun e W' => e = .returned (.tuple #[.int .i64 c, .int .i64 n]) ∧ Below W.heap.size W W'
set_option maxHeartbeats 1000000 in
set_option maxRecDepth 100000 in
theorem gmay_any (T : List Tok) (R : List Rul) (c n : Int) (hC : ChkC T R c n) (AT : Option Addr) (ct : Nat) (AR : Option Addr) (cr : Nat) (W : World) (hT : kTok.C W AT T.length T) (hR : kRul.C W AR R.length R) (hO : OwnAt W) :
 Calls Tryd.prog 7 #[.agg #[.slice AT T.length ct, .slice AR R.length cr]] W fun e W' => e = .returned (.bool (c == 0)) ∧ Below W.heap.size W W' := by
 have HC := Aside0.mk hC
 have HG := Aside0.mk (And.intro hT (And.intro hR hO))
 clear hC hT hR hO
 go_enter Tryd.func7, Tryd.ntmps7
 go_wp2_with fail
 refine (HC.out AT ct AR cr _ (Kd.C_below HG.out.1 (below1 W _)) (Kd.C_below HG.out.2.1 (below1 W _)) (Kd.C_below HG.out.2.2 (below1 W _))).mono ?_
 rintro e w2 ⟨rfl, hb⟩
 have HB := Aside0.mk (join_below (below1 W _) hb)
 clear hb
 go_wp2
 go_ret
 exact ⟨rfl, HB.out⟩
end Go.Proofs.YthdfmbmbjpmlaaaDoor.Rn
end
