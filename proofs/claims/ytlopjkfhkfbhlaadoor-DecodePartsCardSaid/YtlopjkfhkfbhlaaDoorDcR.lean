import Derived.Test.YtlopjkfhkfbhlaaDoorDcQ
import Derived.Lib.SlBytesConst
set_option linter.unusedVariables false
set_option linter.unusedSimpArgs false
namespace Go.Proofs.YtlopjkfhkfbhlaaDoor.Dec
open Go Go.RowKit Go.Proofs.YtlopjkfhkfbhlaaDoorW.PrintWords Go.Proofs.YtlopjkfhkfbhlaaDoorW.PrintLast Go.Proofs.YtlopjkfhkfbhlaaDoorW.PrintMore
theorem all_sl (A : Option Addr) (bs : List Int) (c : Nat) (w : World) (hC : Kd.C (Kd.int .u8) w A bs.length bs) (hk : ∀ b ∈ bs, 0 ≤ b) (hT : Tabs w) (hl : bs.length ≤ 1000000) :
    Calls Tryd.prog 11 #[.slice A bs.length c] w fun e w' => ∃ A c, e = .returned (.slice A (allS bs).length c) ∧ (allS bs).length ≤ c ∧ kItem.R 36 w' w.heap.size (fun _ => True) (.slice A (allS bs).length c) (allS bs) ∧ Below w.heap.size w w' := by
  refine (all_any A bs c w hC hk hT hl).mono ?_
  rintro e w' ⟨v, rfl, hR, hb⟩
  obtain ⟨A, c, rfl, hl, _⟩ := Kd.R_reads hR
  exact ⟨A, c, rfl, hl, hR, hb⟩
/-- blocks of an elder world stand -/
def Old (w W : World) : Prop := w.heap.size ≤ W.heap.size ∧ ∀ k, k < w.heap.size → W.heap[k]? = w.heap[k]?
theorem Old.below {w W : World} (h : Below w.heap.size w W) : Old w W := ⟨h.size, h.block⟩
theorem Old.kept {w W W2 : World} {g : Nat} (h : Old w W) (hk : Kept W W2 (fun j => j = g)) (hg : w.heap.size ≤ g) : Old w W2 :=
  ⟨Nat.le_trans h.1 hk.1, fun k hk' => (hk.2 k (Nat.lt_of_lt_of_le hk' h.1) (fun e => by have e' : k = g := e; omega)).trans (h.2 k hk')⟩
theorem Old.then_ {w W W2 : World} (h : Old w W) (hb : Below W.heap.size W W2) : Old w W2 := ⟨Nat.le_trans h.1 hb.size, fun k hk => (hb.block k (Nat.lt_of_lt_of_le hk h.1)).trans (h.2 k hk)⟩
theorem Old.items {w W : World} {A : Option Addr} {n : Nat} {xs : List Item} (h : Old w W) (hC : kItem.C w A n xs) : kItem.C W A n xs := C_move hC (fun _ _ h => h) h.2
theorem Old.ints {w W : World} {k : IntKind} {A : Option Addr} {n : Nat} {xs : List Int} (h : Old w W) (hC : (Kd.int k).C w A n xs) : (Kd.int k).C W A n xs := C_move hC (fun _ _ h => h) h.2
theorem all_ex : allS [226, 130, 65] = [⟨65533, 0, 2, true, true⟩, ⟨65, 2, 3, false, false⟩] := by decide
theorem feed_ex1 : feedS ⟨[], 0, []⟩ [195] = ⟨[195], 0, []⟩ := by rfl
theorem feed_ex2 : feedS ⟨[195], 0, []⟩ [169] = ⟨[], 2, [⟨233, 0, 2, false, false⟩]⟩ := by rfl
theorem feed_ex3 : feedS ⟨[], 2, []⟩ [240] = ⟨[240], 2, []⟩ := by rfl
theorem close_ex : closeS ⟨[240], 2, []⟩ = ⟨[], 3, [⟨65533, 2, 3, true, true⟩]⟩ := by rfl
theorem put_ex : putS 8364 = [226, 130, 172] := by decide
theorem lit_Cm {k : IntKind} (e : TypeId) (fr : Nat × Nat) (w : World) (xs : List Int) (hl : xs.length ≤ 9223372036854775807) : Kd.C (Kd.int k) (w.alloc (.cells (xs.map (Value.int k)).toArray e fr)) (some ⟨w.heap.size, 0, none⟩) xs.length xs :=
  ⟨rfl, hl, fun _ => ⟨_, rfl, fun j p hj => ⟨[.int k p], rfl, rfl, fun i u hu => by
    have hi : i = 0 := by
      cases i with
      | zero => rfl
      | succ n => simp at hu
    subst hi
    obtain rfl : Value.int k p = u := by simpa using hu
    rw [add_at]
    have := World.cell?_alloc_mark w (xs.map (Value.int k)).toArray e fr (0 + (j * (Kd.int k).sz + 0))
    rw [this]
    show ((xs.map (Value.int k)).toArray)[0 + (j * 1 + 0)]? = _
    simp [hj]⟩⟩⟩
theorem C_blk {k : IntKind} {W W' : World} {b o n : Nat} {xs : List Int} (h : Kd.C (Kd.int k) W (some ⟨b, o, none⟩) n xs) (hb : W'.heap[b]? = W.heap[b]?) : Kd.C (Kd.int k) W' (some ⟨b, o, none⟩) n xs :=
  ⟨h.1, h.2.1, fun hn => by
    obtain ⟨ad, e, hc⟩ := h.2.2 hn
    refine ⟨ad, e, fun j p hj => ?_⟩
    obtain ⟨c, hs, hr, hcell⟩ := hc j p hj
    refine ⟨c, hs, hr, fun i u hu => ?_⟩
    injection e with e
    subst e
    have e2 := World.cell?_of_block (w := W) (w' := W') (a := Addr.add ⟨b, o, none⟩ (j * (Kd.int k).sz + i)) (by rw [add_block]; exact hb)
    rw [e2]
    exact hcell i u hu⟩
/-- one byte is fed, a literal -/
theorem feed_lit (B g : Nat) (held : List Int) (at_ b : Int) (fr : Nat × Nat) (W : World) (hD : Rest W B g held at_ false) (hn : Begun held) (hk : 0 ≤ b) (hT : Tabs W) (hB1' : 0 < B) (hB2' : 1 < B) (ha : 0 ≤ at_) (ha' : at_ ≤ 1000000000) :
    Calls Tryd.prog 16 #[.pointer (some ⟨g, 0, none⟩), .slice (some ⟨W.heap.size, 0, none⟩) 1 1] (W.alloc (.cells #[.int .u8 b] 5 fr)) fun e w' => ∃ A2 m2, e = .returned (.slice A2 (feedS ⟨held, at_, []⟩ [b]).out.length m2) ∧ (feedS ⟨held, at_, []⟩ [b]).out.length ≤ m2 ∧
      kItem.R 36 w' B (fun k => W.heap.size ≤ k) (.slice A2 (feedS ⟨held, at_, []⟩ [b]).out.length m2) (feedS ⟨held, at_, []⟩ [b]).out ∧ Rest w' B g (feedS ⟨held, at_, []⟩ [b]).held (feedS ⟨held, at_, []⟩ [b]).at_ false ∧ Below B W w' ∧ Kept W w' (fun j => j = g) := by
  have hg : g < W.heap.size := by
    obtain ⟨⟨A, c, h, _⟩, _⟩ := hD
    exact blk_lt h
  have hle := hD.le
  refine (feed_sl B g held at_ (some ⟨W.heap.size, 0, none⟩) [b] 1 _ (hD.below (below_alloc (Below.refl _ _) _)) hn (by simpa using hk) (Utf8Tabs_below hT (below_alloc (Below.refl _ _) _)) hB1' hB2' ha ha' (by simp) (fun W' hK => ?_)).mono ?_
  · refine C_blk (lit_Cm 5 fr W [b] (by simp)) (hK.2 W.heap.size (by simp) (fun e => ?_))
    have e' : W.heap.size = g := e
    omega
  · rintro e w' ⟨A, c, rfl, hl, hR, hD', hb', hK'⟩
    refine ⟨A, c, rfl, hl, Kd.R_mono hR (fun k hk => ?_), hD', ((Below.refl _ _).alloc hle _).trans hb', (Kept.of_below (below_alloc (Below.refl _ _) _) _).then_ hK' (fun k h => .inl h)⟩
    have hk' : (W.alloc (.cells #[.int .u8 b] 5 fr)).heap.size ≤ k := hk
    simp at hk'
    omega
set_option maxHeartbeats 2000000 in
set_option maxRecDepth 100000 in
theorem told_any (w : World) (hT : Tabs w) : Calls Tryd.prog 9 #[] w fun e w' => e = .returned (.bool true) ∧ Below w.heap.size w w' := by
  have hu36 := Tryd.underlying36
  have h1 : 0 < w.heap.size := World.block_lt_of_cell? w _ (hT.1 0 (by decide))
  have h2 : 1 < w.heap.size := World.block_lt_of_cell? w _ (hT.2 0 (by decide)).1
  have HT := Aside0.mk hT
  have hcs := fun (w : World) (C : Array Value) (n c : Nat) => Lib.run_convert_bytes_const (P := Tryd.prog) w 22 5 C n c Tryd.underlying22 Tryd.underlying5
  clear hT
  go_enter Tryd.func9, Tryd.ntmps9
  go_wp2_with fail
  refine (all_sl _ [226, 130, 65] _ _ (lit_Cm 5 (3, 4) w [226, 130, 65] (by decide)) (by decide) (Utf8Tabs_below HT.out (below_alloc (Below.refl _ _) _)) (by decide)).mono ?_
  rw [all_ex]
  rintro e w1 ⟨A1, c1, rfl, hl1, hR1, hb1⟩
  have HR1 := Aside0.mk hR1
  have HB1 := Aside0.mk (below_step (below_alloc (Below.refl _ _) _) hb1)
  clear hR1 hb1
  go_wp2_with fail
  refine (new_any w1).mono ?_
  rintro e w2 ⟨rfl, hD2, hb2, hs2⟩
  have HD2 := Aside0.mk hD2
  have HB2 := Aside0.mk hb2
  have HS2 := Aside0.mk hs2
  clear hD2 hb2 hs2
  go_wp2_with fail
  have g1 : 0 < w1.heap.size := Nat.lt_of_lt_of_le h1 HB1.out.size
  have g2 : 1 < w1.heap.size := Nat.lt_of_lt_of_le h2 HB1.out.size
  have HL2 := Aside0.mk (Old.below HB2.out)
  have HT2 := Aside0.mk (Utf8Tabs_below HT.out (below_step HB1.out HB2.out))
  refine (feed_lit w1.heap.size w1.heap.size [] 0 195 (1, 2) w2 HD2.out trivial (by decide) HT2.out g1 g2 (by decide) (by decide)).mono ?_
  rw [feed_ex1]
  rintro e w3 ⟨A3, c3, rfl, hl3, hR3, hD3, hB3, hK3⟩
  have HD3 := Aside0.mk hD3
  have HT3 := Aside0.mk (Tabs_belowB HT2.out hB3 g1 g2)
  have HL3 := Aside0.mk (HL2.out.kept hK3 (Nat.le_refl _))
  have HB3 := Aside0.mk ((below_step HB1.out HB2.out).trans (hB3.mono HB1.out.size))
  have HS3 : Aside0 (w1.heap.size < w3.heap.size) := ⟨by have h1 := HS2.out; have h2 := hK3.1; omega⟩
  clear hD3 hB3 hK3 hR3 HD2 HT2 HL2 HB2
  go_wp2_with fail
  refine (held_any w1.heap.size w1.heap.size [195] 0 false w3 HD3.out).mono ?_
  rintro e w' ⟨rfl, rfl⟩
  go_wp2_with fail
  refine (feed_lit w1.heap.size w1.heap.size [195] 0 169 (1, 2) w3 HD3.out ⟨by decide, by decide⟩ (by decide) HT3.out g1 g2 (by decide) (by decide)).mono ?_
  rw [feed_ex2]
  rintro e w4 ⟨A4, c4, rfl, hl4, hR4, hD4, hB4, hK4⟩
  have HD4 := Aside0.mk hD4
  have HR4 := Aside0.mk (Kd.R_bound hR4)
  have HT4 := Aside0.mk (Tabs_belowB HT3.out hB4 g1 g2)
  have HL4 := Aside0.mk (HL3.out.kept hK4 (Nat.le_refl _))
  have HB4 := Aside0.mk (HB3.out.trans (hB4.mono HB1.out.size))
  clear hD4 hB4 hK4 hR4 HD3 HT3 HL3 HB3
  go_wp2_with fail
  refine (feed_lit w1.heap.size w1.heap.size [] 2 240 (1, 2) w4 HD4.out trivial (by decide) HT4.out g1 g2 (by decide) (by decide)).mono ?_
  rw [feed_ex3]
  rintro e w5 ⟨A5, c5, rfl, hl5, hR5, hD5, hB5, hK5⟩
  have HD5 := Aside0.mk hD5
  have HL5 := Aside0.mk (HL4.out.kept hK5 (Nat.le_refl _))
  have HR45 := Aside0.mk (Kd.R_kept HR4.out hK5 (fun k hk (hh : k = _) => by have := HS3.out; have := hk.1; omega))
  have HB5 := Aside0.mk (HB4.out.trans (hB5.mono HB1.out.size))
  clear hD5 hB5 hK5 hR5 HD4 HT4 HL4 HB4 HR4
  go_wp2_with fail
  refine (close_sl w1.heap.size w1.heap.size [240] 2 w5 HD5.out (by decide) (by decide) (by decide)).mono ?_
  rw [close_ex]
  rintro e w6 ⟨A6, c6, rfl, hl6, hR6, hD6, hB6, hK6⟩
  have HD6 := Aside0.mk hD6
  have HC1 := Aside0.mk ((HL5.out.kept hK6 (Nat.le_refl _)).items (Kd.R_reads' HR1.out).2.2)
  have HC4 := Aside0.mk (Kd.R_reads' (Kd.R_kept HR45.out hK6 (fun k hk (hh : k = _) => by have := HS3.out; have := hk.1; omega))).2.2
  have HC6 := Aside0.mk (Kd.R_reads' hR6).2.2
  have HB6 := Aside0.mk (HB5.out.trans (hB6.mono HB1.out.size))
  clear hD6 hB6 hK6 hR6 HD5 HL5 HR45 HB5 HR1 HB1 HS2 HS3
  go_wp2_with fail
  refine (feed_closed w1.heap.size w1.heap.size [] 3 _ _ (HD6.out.below (below_alloc (Below.refl _ _) _))).mono ?_
  rintro e w7 ⟨rfl, h7⟩
  have hB7 : Below w6.heap.size w6 w7 := h7 ▸ below_alloc (Below.refl _ _) _
  clear h7
  obtain ⟨gl, ol, rfl, _, _⟩ := item_cells HC1.out (by decide)
  obtain ⟨gb, ob, rfl, _, _⟩ := item_cells HC4.out (by decide)
  obtain ⟨ge, oe, rfl, _, _⟩ := item_cells HC6.out (by decide)
  obtain ⟨a0, a1, a2, a3, a4⟩ := item_at (Kd.C_below HC1.out hB7) 0 (by decide)
  obtain ⟨b0, b1, b2, b3, b4⟩ := item_at (Kd.C_below HC1.out hB7) 1 (by decide)
  obtain ⟨d0, d1, d2, d3, d4⟩ := item_at (Kd.C_below HC4.out hB7) 0 (by decide)
  obtain ⟨e0, e1, e2, e3, e4⟩ := item_at (Kd.C_below HC6.out hB7) 0 (by decide)
  simp only [List.getElem_cons_zero, List.getElem_cons_succ, Nat.zero_mul, Nat.add_zero, Nat.one_mul] at a0 a1 a2 a3 a4 b0 b1 b2 b3 b4 d0 d1 d2 d3 d4 e0 e1 e2 e3 e4
  have HB7 := Aside0.mk (below_step HB6.out hB7)
  clear hB7 HC1 HC4 HC6 HD6 HB6 hl1 hl3 hl4 hl5 hl6
  go_wp2_with fail
  repeat (go_quiet (fail); try go_wp2)
  clear a0 a1 a2 a3 a4 b0 b1 b2 b3 b4 d0 d1 d2 d3 d4 e0 e1 e2 e3 e4
  refine (put_any 8364 w7 (by decide) (by decide)).mono ?_
  rw [put_ex]
  rintro e w8 ⟨A8, c8, rfl, hR8, hb8⟩
  have HB8 := Aside0.mk (below_step HB7.out hb8)
  have hcv := Kd.C_string (P := Tryd.prog) Tryd.underlying22 Tryd.underlying5 Tryd.underlying9 (c := c8) (Kd.R_reads' hR8).2.2
  simp only [List.length_cons, List.length_nil, Nat.zero_add, Nat.reduceAdd] at hcv
  clear hR8 hb8 HB7
  rw [show strOfNums [226, 130, 172] = (⟨#[226, 130, 172]⟩ : ByteArray) by rfl] at hcv
  go_wp2_with fail
  refine (feed_nil _ _).mono ?_
  rintro e w' ⟨rfl, rfl⟩
  go_wp2_with fail
  refine (held_nil _).mono ?_
  rintro e w' ⟨rfl, rfl⟩
  go_wp2_with fail
  refine (close_nil _).mono ?_
  rintro e w' ⟨rfl, rfl⟩
  go_wp2_with fail
  go_ret
  exact ⟨rfl, below_alloc HB8.out _⟩
end Go.Proofs.YtlopjkfhkfbhlaaDoor.Dec
