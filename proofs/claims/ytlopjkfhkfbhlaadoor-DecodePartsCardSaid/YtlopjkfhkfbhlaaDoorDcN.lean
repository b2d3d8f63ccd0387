import Derived.Test.YtlopjkfhkfbhlaaDoorDcM
set_option linter.unusedVariables false
set_option linter.unusedSimpArgs false
namespace Go.Proofs.YtlopjkfhkfbhlaaDoor.Dec
open Go Go.RowKit Go.Proofs.YtlopjkfhkfbhlaaDoorW.PrintWords Go.Proofs.YtlopjkfhkfbhlaaDoorW.PrintLast Go.Proofs.YtlopjkfhkfbhlaaDoorW.PrintMore
section
variable {P : Program} {ops : Array Oper} {rest : List Oper} {o : Oper} {a : Act} {Q : Exit → Act → World → Prop} {α : Type}
theorem R_appendS (d : Kd α) {w0 W : World} (base : Nat) (hgd : o.guard = none) (s x : Operand) (t e : TypeId) (z : Value) (bytes : Nat)
    (ho : o.op = .call { callee := .builtin .append, args := #[s, x], argTypes := #[t, t] })
    (ht : P.underlying t = some (.slice e)) (hinfo : (P.info? e).map (fun i => (i.zero, i.size, i.bytes)) = some (some z, d.sz, bytes)) (hz : z.cells.size = d.sz) (hs0 : 0 < d.sz) (hb0 : 0 < bytes)
    (v : Value) (xs : List α) (p : α) (cs : List Value) (ok okp : Nat → Prop) (hs : a.eval s = v) (hx : a.eval x = .slice (some ⟨W.heap.size, 0, none⟩) 1 1) (hp : d.M W base okp p cs) (hokp : ∀ k, okp k → ok k ∧ some k ≠ v.ownBlock) (hfresh : ∀ k, W.heap.size ≤ k → ok k)
    (HO : d.R e W base ok v xs) (HB : Below base w0 W) (hbase : base ≤ W.heap.size) (hl : (xs.length + 1) * bytes ≤ 140737488355328)
    (h : ∀ A1 c1 w1, d.R e w1 base ok (.slice A1 (xs.length + 1) c1) (xs ++ [p]) → Below base w0 w1 → W.grownBy w1 v.ownBlock → ((Value.slice A1 (xs.length + 1) c1).ownBlock = v.ownBlock ∨ ∃ b, (Value.slice A1 (xs.length + 1) c1).ownBlock = some b ∧ W.heap.size ≤ b) → wpList P ops Q rest (a.put o.dst (.slice A1 (xs.length + 1) c1)) w1) :
    wpList P ops Q (o :: rest) a (W.alloc (.cells cs.toArray e)) := by
  refine Kd.R_append d base hgd s x t e z bytes ho ht hinfo hz hs0 hb0 v xs p cs ok okp hs hx hp hokp hfresh HO HB hbase hl ?_
  intro v1 w1 hR hB hG hN
  obtain ⟨A1, c1, rfl⟩ := Kd.R_slice hR
  rw [List.length_append, List.length_singleton] at *
  exact h A1 c1 w1 hR hB hG hN
end
theorem one_any (s : ByteArray) (p : Nat) (hp : p < s.size) (hs : s.size ≤ 1000000000) (w : World) (n : Nat) (r : Int) (bad more sure : Bool) (ho : oneS ((bytesOf s).drop p) = (n, r, bad, more, sure)) :
    Calls Tryd.prog 26 #[.string s, .int .i64 p] w fun e w' => e = .returned (.tuple #[.agg #[.int .i32 r, .int .i64 p, .int .i64 (p + n), .bool bad, .bool more], .bool sure]) ∧ Below w.heap.size w w' := by
  obtain ⟨a, ha⟩ : ∃ a : Int, ((s[p]'hp).toNat : Int) = a := ⟨_, rfl⟩
  have h0 : 0 ≤ a := by omega
  have h1 : a < 256 := by have := (s[p]'hp).toNat_lt; omega
  rw [drop_at s p hp a ha] at ho
  have hcase : a < 128 ∨ (128 ≤ a ∧ a < 194 ∨ 245 ≤ a) ∨ (194 ≤ a ∧ a ≤ 223) ∨ (224 ≤ a ∧ a ≤ 239) ∨ (240 ≤ a ∧ a ≤ 244) := by omega
  rcases hcase with h | h | ⟨h, h'⟩ | ⟨h, h'⟩ | ⟨h, h'⟩
  · have : longF a = 1 := longF_1 h
    simp only [oneS, this] at ho
    simp at ho
    obtain ⟨rfl, rfl, rfl, rfl, rfl⟩ := ho
    exact one_low s p hp hs w a ha h0 h
  · have : longF a = 0 := by
      rcases h with ⟨h, h'⟩ | h
      · exact longF_0 h h'
      · exact longF_5 h
    simp only [oneS, this] at ho
    simp at ho
    obtain ⟨rfl, rfl, rfl, rfl, rfl⟩ := ho
    exact one_none s p hp hs w a ha h
  · have : longF a = 2 := longF_2 h h'
    simp only [oneS, this] at ho
    simp at ho
    exact one_2 s p hp hs w a ha h h' n r bad more sure ho
  · have : longF a = 3 := longF_3 h h'
    simp only [oneS, this] at ho
    simp at ho
    exact one_3 s p hp hs w a ha h h' n r bad more sure ho
  · have : longF a = 4 := longF_4 h h'
    simp only [oneS, this] at ho
    simp at ho
    exact one_4 s p hp hs w a ha h h' n r bad more sure ho
def itemsS (whole : Bool) (bs : List Int) : List Item := if whole = true then allS bs else (feedS ⟨[], 0, []⟩ bs).out
/-- the document's walk over bytes, at place p with these items -/
def ItemsAt (whole : Bool) (bs : List Int) (p : Nat) (out : List Item) : Prop :=
  p ≤ bs.length ∧ out.length ≤ p ∧ (feedS ⟨[], 0, []⟩ bs = feedS ⟨[], p, out⟩ (bs.drop p) ∨ p = bs.length ∧ out = itemsS whole bs)
theorem ItemsAt.start (whole : Bool) (bs : List Int) : ItemsAt whole bs 0 [] := ⟨Nat.zero_le _, Nat.le_refl _, .inl rfl⟩
theorem ItemsAt.done {whole : Bool} {bs : List Int} {p : Nat} {out : List Item} (h : ItemsAt whole bs p out) (hp : ¬ p < bs.length) : out = itemsS whole bs := by
  obtain ⟨h1, h2, h3 | ⟨_, h3⟩⟩ := h
  · have e : bs.drop p = [] := List.drop_of_length_le (by omega)
    rw [e] at h3
    have h4 : feedS ⟨[], 0, []⟩ bs = ⟨[], p, out⟩ := h3
    unfold itemsS allS
    rw [h4]
    split <;> simp [closeS]
  · exact h3
theorem ItemsAt.next {whole : Bool} {bs : List Int} {p n : Nat} {out : List Item} {r : Int} {bad more sure : Bool} (h : ItemsAt whole bs p out) (hp : p < bs.length) (ho : oneS (bs.drop p) = (n, r, bad, more, sure)) (hw : sure = true ∨ whole = true) :
    ItemsAt whole bs (p + n) (out ++ [⟨r, p, (p : Int) + n, bad, more⟩]) ∧ 1 ≤ n := by
  obtain ⟨h1, h2, h3 | ⟨h3, _⟩⟩ := h
  · have hne : bs.drop p ≠ [] := by
      intro e
      have := congrArg List.length e
      simp at this
      omega
    have hf := one_feed (bs.drop p) hne p out
    rw [ho] at hf
    cases sure with
    | true =>
      obtain ⟨k1, k2, k3⟩ := hf.1 rfl
      rw [List.length_drop] at k2
      dsimp only at k1 k2 k3
      refine ⟨⟨by omega, by simp; omega, .inl ?_⟩, k1⟩
      rw [h3, k3, List.drop_drop]
      congr 1
    | false =>
      obtain ⟨k1, k2⟩ := hf.2 rfl
      have hw' : whole = true := by simpa using hw
      subst hw'
      rw [k2] at h3
      simp only [Prod.mk.injEq, List.length_drop] at k1
      obtain ⟨rfl, rfl, rfl, rfl, _⟩ := k1
      refine ⟨⟨by omega, by simp; omega, .inr ⟨by omega, ?_⟩⟩, by omega⟩
      unfold itemsS allS
      rw [h3]
      have hlen : ¬ bs.length ≤ p := by omega
      simp [closeS, tellS, hlen]
  · omega
theorem ItemsAt.stop {bs : List Int} {p n : Nat} {out : List Item} {r : Int} {bad more : Bool} (h : ItemsAt false bs p out) (hp : p < bs.length) (ho : oneS (bs.drop p) = (n, r, bad, more, false)) : out = itemsS false bs := by
  obtain ⟨h1, h2, h3 | ⟨h3, _⟩⟩ := h
  · have hne : bs.drop p ≠ [] := by
      intro e
      have := congrArg List.length e
      simp at this
      omega
    have hf := one_feed (bs.drop p) hne p out
    rw [ho] at hf
    obtain ⟨k1, k2⟩ := hf.2 rfl
    rw [k2] at h3
    simp [itemsS, h3]
  · omega
set_option maxHeartbeats 1000000 in
set_option maxRecDepth 100000 in
theorem ref_items (s : ByteArray) (whole : Bool) (hs : s.size ≤ 1000000) (w : World) :
    Calls Tryd.prog 20 #[.string s, .bool whole] w fun e w' => ∃ A c, e = .returned (.slice A (itemsS whole (bytesOf s)).length c) ∧ kItem.R 36 w' w.heap.size (fun _ => True) (.slice A (itemsS whole (bytesOf s)).length c) (itemsS whole (bytesOf s)) ∧ Below w.heap.size w w' := by
  go_enter Tryd.func20, Tryd.ntmps20
  go_wp2
  go_loopw [5, 6] (fun v5 i W => ∃ (p : Nat) (A : Option Addr) (c : Nat) (out : List Item), i = .int .i64 p ∧ v5 = .slice A out.length c ∧ Aside0 (ItemsAt whole (bytesOf s) p out) ∧ Aside0 (kItem.R 36 W w.heap.size (fun _ => True) (.slice A out.length c) out) ∧ Aside0 (Below w.heap.size w W)) (fun _ i _ => s.size - (intOf i).toNat)
  case atStart => exact ⟨0, none, 0, [], rfl, rfl, ⟨ItemsAt.start _ _⟩, ⟨Kd.R_nil _ _ _ _ _⟩, ⟨Below.refl _ _⟩⟩
  case round =>
    obtain ⟨p, A, c, out, rfl, rfl, HI, HR, HB⟩ := hrel
    have hlen := bytesOf_length s
    by_cases hlt : p < s.size
    · obtain ⟨⟨n, r, bad, more, sure⟩, ho⟩ : ∃ o, oneS ((bytesOf s).drop p) = o := ⟨_, rfl⟩
      have HO := Aside0.mk ho
      clear ho hlen
      have hcase : sure = true ∨ (sure = false ∧ whole = true) ∨ (sure = false ∧ whole = false) := by cases sure <;> cases whole <;> simp
      rcases hcase with rfl | ⟨rfl, rfl⟩ | ⟨rfl, rfl⟩
      · have HN := Aside0.mk (HI.out.next (by rw [bytesOf_length]; exact hlt) HO.out (.inl rfl))
        have hn1 := HN.out.2
        go_wp2_with (first | (go_at_call 26; refine (one_any s p hlt (by omega) _ n r bad more true HO.out).mono ?_; rintro e w1 ⟨rfl, hb⟩; have HB1 := Aside0.mk (below_step HB.out hb); have HRw := Aside0.mk (Kd.R_below HR.out hb); have HR1 := Aside0.mk (Kd.R_alloc HRw.out (.cells #[.int .i32 r, .int .i64 p, .int .i64 (p + n), .bool bad, .bool more] 36)); clear hb) | ((with_reducible refine gate_builtin (b := .append) (xs := #[.tmp 25, .tmp 27]) rfl ?_); refine R_appendS (kItem) _ ?hg (.tmp 25) (.tmp 27) 25 36 (.agg #[(.int .i32 0), (.int .i64 0), (.int .i64 0), (.bool false), (.bool false)]) _ rfl ?ht info_item ?hz ?hs0 ?hb0 (_) (out) (⟨r, p, (p : Int) + n, bad, more⟩) (_) (fun _ => True) (fun _ => False) rfl ?hx ?hp (fun _ h => h.elim) (fun _ _ => trivial) (HR1.out) (Below.refl _ _) ((Nat.le_trans HB1.out.size (by simp))) ?hl ?_; (case hg => rfl); (case hx => first | rfl | (go_simp; done) | (simp [Act.eval]; done)); (case ht => exact Tryd.underlying25); (case hz => rfl); (case hs0 => decide); (case hb0 => decide); (case hp => first | rfl | exact kItem_mkM _ _ _ _); (case hl => (have := HI.out.2.1; omega)); intro A_v1 c_v1 w_v1 hv1 hb_v1 hg_v1 hn_v1; have HXB := Aside0.mk ((hg_v1.block w1.heap.size (by simp) (fun h => by have := Kd.R_lt HRw.out _ h.symm; omega)).trans (blk_new w1 _)); have cx : w_v1.cell? ⟨w1.heap.size, 2, none⟩ = some (.int .i64 (p + n)) := (blk_cell HXB.out 2).trans rfl))
        go_roundw
        case rel =>
          have hE : (out ++ [(⟨r, p, (p : Int) + n, bad, more⟩ : Item)]).length = out.length + 1 := by simp
          exact ⟨p + n, A_v1, c_v1, out ++ [(⟨r, p, (p : Int) + n, bad, more⟩ : Item)], by simp, by rw [hE], ⟨HN.out.1⟩, ⟨by rw [hE]; exact hv1⟩, ⟨(HB1.out.alloc HB1.out.size _).trans hb_v1⟩⟩
        case measure => simp [intOf]; omega
      · have HN := Aside0.mk (HI.out.next (by rw [bytesOf_length]; exact hlt) HO.out (.inr rfl))
        have hn1 := HN.out.2
        go_wp2_with (first | (go_at_call 26; refine (one_any s p hlt (by omega) _ n r bad more false HO.out).mono ?_; rintro e w1 ⟨rfl, hb⟩; have HB1 := Aside0.mk (below_step HB.out hb); have HRw := Aside0.mk (Kd.R_below HR.out hb); have HR1 := Aside0.mk (Kd.R_alloc HRw.out (.cells #[.int .i32 r, .int .i64 p, .int .i64 (p + n), .bool bad, .bool more] 36)); clear hb) | ((with_reducible refine gate_builtin (b := .append) (xs := #[.tmp 25, .tmp 27]) rfl ?_); refine R_appendS (kItem) _ ?hg (.tmp 25) (.tmp 27) 25 36 (.agg #[(.int .i32 0), (.int .i64 0), (.int .i64 0), (.bool false), (.bool false)]) _ rfl ?ht info_item ?hz ?hs0 ?hb0 (_) (out) (⟨r, p, (p : Int) + n, bad, more⟩) (_) (fun _ => True) (fun _ => False) rfl ?hx ?hp (fun _ h => h.elim) (fun _ _ => trivial) (HR1.out) (Below.refl _ _) ((Nat.le_trans HB1.out.size (by simp))) ?hl ?_; (case hg => rfl); (case hx => first | rfl | (go_simp; done) | (simp [Act.eval]; done)); (case ht => exact Tryd.underlying25); (case hz => rfl); (case hs0 => decide); (case hb0 => decide); (case hp => first | rfl | exact kItem_mkM _ _ _ _); (case hl => (have := HI.out.2.1; omega)); intro A_v1 c_v1 w_v1 hv1 hb_v1 hg_v1 hn_v1; have HXB := Aside0.mk ((hg_v1.block w1.heap.size (by simp) (fun h => by have := Kd.R_lt HRw.out _ h.symm; omega)).trans (blk_new w1 _)); have cx : w_v1.cell? ⟨w1.heap.size, 2, none⟩ = some (.int .i64 (p + n)) := (blk_cell HXB.out 2).trans rfl))
        go_roundw
        case rel =>
          have hE : (out ++ [(⟨r, p, (p : Int) + n, bad, more⟩ : Item)]).length = out.length + 1 := by simp
          exact ⟨p + n, A_v1, c_v1, out ++ [(⟨r, p, (p : Int) + n, bad, more⟩ : Item)], by simp, by rw [hE], ⟨HN.out.1⟩, ⟨by rw [hE]; exact hv1⟩, ⟨(HB1.out.alloc HB1.out.size _).trans hb_v1⟩⟩
        case measure => simp [intOf]; omega
      · have HS := Aside0.mk (HI.out.stop (by rw [bytesOf_length]; exact hlt) HO.out)
        go_wp2_with (go_at_call 26; refine (one_any s p hlt (by omega) _ n r bad more false HO.out).mono ?_; rintro e w1 ⟨rfl, hb⟩)
        go_ret
        exact ⟨A, c, by rw [← HS.out]; rfl, by rw [← HS.out]; exact Kd.R_alloc (Kd.R_below HR.out hb) _, (below_step HB.out hb).alloc (Nat.le_trans HB.out.size hb.size) _⟩
    · have HS := Aside0.mk (HI.out.done (by rw [bytesOf_length]; exact hlt))
      go_wp2
      go_ret
      exact ⟨A, c, by rw [← HS.out]; rfl, by rw [← HS.out]; exact HR.out, HB.out⟩
theorem ref_all (s : ByteArray) (hs : s.size ≤ 1000000) (w : World) :
    Calls Tryd.prog 12 #[.string s] w fun e w' => ∃ A c, e = .returned (.slice A (allS (bytesOf s)).length c) ∧ kItem.R 36 w' w.heap.size (fun _ => True) (.slice A (allS (bytesOf s)).length c) (allS (bytesOf s)) ∧ Below w.heap.size w w' := by
  go_enter Tryd.func12, Tryd.ntmps12
  go_wp2_with (go_at_call 20; refine (ref_items s true hs _).mono ?_; rintro e w1 ⟨A, c, rfl, hR, hb⟩)
  go_ret
  exact ⟨A, c, rfl, hR, hb⟩
theorem ref_fed (s : ByteArray) (hs : s.size ≤ 1000000) (w : World) :
    Calls Tryd.prog 17 #[.string s] w fun e w' => ∃ A c, e = .returned (.slice A (feedS ⟨[], 0, []⟩ (bytesOf s)).out.length c) ∧ kItem.R 36 w' w.heap.size (fun _ => True) (.slice A (feedS ⟨[], 0, []⟩ (bytesOf s)).out.length c) (feedS ⟨[], 0, []⟩ (bytesOf s)).out ∧ Below w.heap.size w w' := by
  go_enter Tryd.func17, Tryd.ntmps17
  go_wp2_with (go_at_call 20; refine (ref_items s false hs _).mono ?_; rintro e w1 ⟨A, c, rfl, hR, hb⟩)
  go_ret
  exact ⟨A, c, rfl, hR, hb⟩
end Go.Proofs.YtlopjkfhkfbhlaaDoor.Dec
