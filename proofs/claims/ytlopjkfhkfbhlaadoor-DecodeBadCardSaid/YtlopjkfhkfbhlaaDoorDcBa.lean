import Derived.Test.YtlopjkfhkfbhlaaDoorDcU
import Derived.Test.YtlopjkfhkfbhlaaDoorDcT
import Derived.Test.YtlopjkfhkfbhlaaDoorDcY
import Derived.ArgAppend
set_option linter.unusedVariables false
set_option linter.unusedSimpArgs false
namespace Go.Proofs.YtlopjkfhkfbhlaaDoor.Dec
open Go Go.RowKit Go.Proofs.YtlopjkfhkfbhlaaDoorW.PrintWords Go.Proofs.YtlopjkfhkfbhlaaDoorW.PrintLast Go.Proofs.YtlopjkfhkfbhlaaDoorW.PrintMore
/-! what is told stays told -/
theorem moreS_pre {s s' : St} {c : Int} (h : moreS s c = some s') : s.out <+: s'.out := by
  unfold moreS at h
  split at h
  · split at h
    · cases h
      exact List.prefix_append _ _
    · cases h
      exact List.prefix_refl _
  · cases h
theorem takeS_pre (s : St) (c : Int) : s.out <+: (takeS s c).out := by
  unfold takeS
  cases hm : moreS s c with
  | some s' => exact moreS_pre hm
  | none =>
    dsimp only
    split
    · exact List.prefix_append _ _
    · unfold takeNil
      cases hm2 : moreS (tellS s true true) c with
      | some s' => exact (List.prefix_append _ _).trans (moreS_pre hm2)
      | none => exact (List.prefix_append _ _).trans (List.prefix_append _ _)
theorem feedS_pre (bs : List Int) : ∀ s : St, s.out <+: (feedS s bs).out := by
  induction bs with
  | nil => intro s; exact List.prefix_refl _
  | cons b r ih =>
    intro s
    exact (takeS_pre s b).trans (ih _)
theorem allS_pre (xs ys : List Int) : (feedS ⟨[], 0, []⟩ xs).out <+: allS (xs ++ ys) := by
  unfold allS
  rw [feedS_app]
  exact (feedS_pre _ _).trans (List.prefix_append _ _)
/-! the bad beginnings -/
def badS : List (List Int) := [[128], [191], [192], [193], [245], [255], [224, 159], [237, 160], [240, 143], [244, 144], [226], [226, 130], [240, 159, 152], [195]]
def badN : List Int := [1, 1, 1, 1, 1, 1, 1, 1, 1, 1, 1, 2, 3, 1]
def badM : List Bool := [false, false, false, false, false, false, true, true, true, true, true, true, true, true]
theorem forall14 {p : Nat → Prop} (h0 : p 0) (h1 : p 1) (h2 : p 2) (h3 : p 3) (h4 : p 4) (h5 : p 5) (h6 : p 6) (h7 : p 7) (h8 : p 8) (h9 : p 9) (h10 : p 10) (h11 : p 11) (h12 : p 12) (h13 : p 13) (i : Nat) (hi : i < 14) : p i := by
  match i, hi with
  | 0, _ => exact h0
  | 1, _ => exact h1
  | 2, _ => exact h2
  | 3, _ => exact h3
  | 4, _ => exact h4
  | 5, _ => exact h5
  | 6, _ => exact h6
  | 7, _ => exact h7
  | 8, _ => exact h8
  | 9, _ => exact h9
  | 10, _ => exact h10
  | 11, _ => exact h11
  | 12, _ => exact h12
  | 13, _ => exact h13
/-- what the first two items are -/
def BadTwo (l : List Item) (n k : Int) (m : Bool) : Prop := ∃ (y : Item) (r : List Item), l = (⟨65533, 0, n, true, m⟩ : Item) :: y :: r ∧ (y.r = 97 ∨ n < k ∧ y.bad = true)
theorem BadTwo.pre {l l' : List Item} {n k : Int} {m : Bool} (h : BadTwo l n k m) (hp : l <+: l') : BadTwo l' n k m := by
  obtain ⟨y, r, rfl, h⟩ := h
  obtain ⟨t, rfl⟩ := hp
  exact ⟨y, r ++ t, by simp, h⟩
theorem bad_all (i : Nat) (hi : i < 14) : BadTwo (feedS ⟨[], 0, []⟩ (badS.getD i [] ++ [97])).out (badN.getD i 0) (badS.getD i []).length (badM.getD i false) :=
  forall14 (p := fun i => BadTwo (feedS ⟨[], 0, []⟩ (badS.getD i [] ++ [97])).out (badN.getD i 0) (badS.getD i []).length (badM.getD i false))
    ⟨_, _, rfl, .inl rfl⟩ ⟨_, _, rfl, .inl rfl⟩ ⟨_, _, rfl, .inl rfl⟩ ⟨_, _, rfl, .inl rfl⟩ ⟨_, _, rfl, .inl rfl⟩ ⟨_, _, rfl, .inl rfl⟩
    ⟨_, _, rfl, .inr ⟨by decide, rfl⟩⟩ ⟨_, _, rfl, .inr ⟨by decide, rfl⟩⟩ ⟨_, _, rfl, .inr ⟨by decide, rfl⟩⟩ ⟨_, _, rfl, .inr ⟨by decide, rfl⟩⟩ ⟨_, _, rfl, .inl rfl⟩ ⟨_, _, rfl, .inl rfl⟩ ⟨_, _, rfl, .inl rfl⟩ ⟨_, _, rfl, .inl rfl⟩ i hi
/-! appending to the row of '[]byte(s)' -/
theorem bw_frozen (W : World) (e : TypeId) (s : ByteArray) (j : Nat) (hj : j < (Lib.bytesCells W e s).size) : (Lib.bytesWorld W e s).frozen? ⟨W.heap.size, j, none⟩ = false := by
  have h := Lib.bytesWorld_at_new W e s
  simp only [World.frozen?, h, Bool.and_eq_false_iff, decide_eq_false_iff_not]
  left
  omega
theorem bw_some (W : World) (e : TypeId) (s : ByteArray) (j : Nat) (hj : j < (Lib.bytesCells W e s).size) : ((Lib.bytesWorld W e s).cell? ⟨W.heap.size, j, none⟩).isSome = true := by
  have h := Lib.bytesWorld_at_new W e s
  simp [World.cell?, h, hj]
theorem bw_size (W : World) (e : TypeId) (s : ByteArray) : (Lib.bytesCells W e s).size = grownCap W s.size 0 e := by
  unfold Lib.bytesCells
  have := grownCap_ge W s.size 0 e
  simp
  show s.size + _ = _
  omega
theorem below_sets {B : Nat} {a : World} (b : Nat) (hb : B ≤ b) : ∀ (vs : List Value) (o : Nat) {w : World}, Below B a w → Below B a (w.setCells b o vs)
  | [], _, _, h => h
  | v :: r, o, _, h => below_sets b hb r (o + 1) (h.setCell (p := ⟨b, o, none⟩) hb v)
/-- a row of bytes that is read, cell by cell -/
theorem C_of_all {k : IntKind} {W : World} {x : Addr} {zs : List Int} (hm : zs.length ≤ 9223372036854775807) (hc : ∀ i (h : i < zs.length), W.cell? (x.add i) = some (.int k zs[i])) : Kd.C (Kd.int k) W (some x) zs.length zs := by
  have := C_of_cells (k := k) (W := W) (x := x) (len := zs.length) (zs := zs) (Nat.le_refl _) hm (fun i hi => by rw [hc i hi]; simp [List.getD_eq_getElem?_getD, hi])
  simpa using this
theorem run_append_bytes (W : World) (s : ByteArray) (A : Option Addr) (ys : List Int) (c : Nat) (ty : TypeId) (hC : Kd.C (Kd.int .u8) W A ys.length ys) (hs : 0 < s.size) (hl : s.size + ys.length ≤ 1000) :
    ∃ A' c' w', (Builtin.append_ #[22, 22] ty #[.slice (some ⟨W.heap.size, 0, none⟩) s.size (grownCap W s.size 0 5), .slice A ys.length c]).run Tryd.prog (Lib.bytesWorld W 5 s) = .ok (.slice A' (bytesOf s ++ ys).length c') w' ∧
      Kd.C (Kd.int .u8) w' A' (bytesOf s ++ ys).length (bytesOf s ++ ys) ∧ Below W.heap.size W w' := by
  obtain ⟨i, hi, hz0, hz1, hz2⟩ := info_parts info_u8
  have hle := grownCap_ge W s.size 0 5
  have hbw : Below W.heap.size W (Lib.bytesWorld W 5 s) := bytes_below (Below.refl _ _) (Nat.le_refl _) _ _
  have hlen : (bytesOf s ++ ys).length = s.size + ys.length := by rw [List.length_append, bytesOf_length]
  have hold : ∀ j (hj : j < s.size), (Lib.bytesWorld W 5 s).cell? ⟨W.heap.size, j, none⟩ = some (.int .u8 ((bytesOf s)[j]'(by rw [bytesOf_length]; exact hj))) := fun j hj => by
    rw [Lib.bytesWorld_cell W _ s j hj]
    have h' : j < s.data.toList.length := by rw [data_length]; exact hj
    simp [bytesOf, List.getD_eq_getElem?_getD, List.getElem?_eq_getElem h']
  have hCb := Kd.C_below hC hbw
  rw [hlen]
  by_cases hy : ys = []
  · subst hy
    refine ⟨some ⟨W.heap.size, 0, none⟩, grownCap W s.size 0 5, Lib.bytesWorld W 5 s, ?_, ?_, hbw⟩
    · have hf : ∀ W2 : World, Sem.run Tryd.prog (Builtin.firstCells 1 0 (Value.slice A 0 c)) W2 = .ok #[] W2 := fun W2 => by
        cases A with
        | none => exact run_firstCells_none W2 1 0 0 c
        | some a => exact run_firstCells_some W2 1 0 a 0 c [] rfl (fun j u hu => by cases hu)
      cases A <;> simp [Builtin.append_, run_underlying Tryd.underlying22, sizeOf, typeInfo, hi, hz1, Builtin.lenOf, hle, storeCells, hf]
    · have := C_of_all (k := .u8) (W := Lib.bytesWorld W 5 s) (x := ⟨W.heap.size, 0, none⟩) (zs := bytesOf s) (by rw [bytesOf_length]; omega) (fun j hj => by rw [add_at, Nat.zero_add]; exact hold j (by rw [bytesOf_length] at hj; exact hj))
      simpa [bytesOf_length] using this
  · obtain ⟨ga, oa, rfl, _, _⟩ := int_cells hCb (List.length_pos_iff.2 hy)
    have hnews : ∀ j u, (ys.map (Value.int .u8))[j]? = some u → (Lib.bytesWorld W 5 s).cell? ((⟨ga, oa, none⟩ : Addr).add j) = some u := fun j u hu => by
      rw [List.getElem?_map] at hu
      obtain ⟨y, hy1, hy2⟩ := Option.map_eq_some_iff.1 hu
      have hj : j < ys.length := (List.getElem?_eq_some_iff.1 hy1).1
      rw [add_at, ← hy2, int_cells_at hCb j hj]
      rw [List.getElem?_eq_getElem hj] at hy1
      injection hy1 with hy1
      rw [hy1]
    have h1 : ∀ u ∈ ys.map (Value.int .u8), u.oneCell' = true := fun u hu => by
      obtain ⟨y, _, rfl⟩ := List.mem_map.1 hu
      rfl
    by_cases hroom : s.size + ys.length ≤ grownCap W s.size 0 5
    · have hbs := bw_size W 5 s
      have hr := run_append_room_cells (P := Tryd.prog) (Lib.bytesWorld W 5 s) 22 ty 5 i Tryd.underlying22 hi W.heap.size 0 s.size (grownCap W s.size 0 5) ⟨ga, oa, none⟩ ys.length c (ys.map (Value.int .u8)) (by rw [hz1]; simp) hnews h1 hroom
        (fun j hj => by rw [hz1, Nat.mul_one, Nat.zero_add]; simp at hj; exact bw_some W _ s _ (by omega)) (fun j hj => by rw [hz1, Nat.mul_one, Nat.zero_add]; simp at hj; exact bw_frozen W _ s _ (by omega))
      rw [hz1, Nat.mul_one, Nat.zero_add] at hr
      refine ⟨_, _, _, hr, ?_, below_sets _ (Nat.le_refl _) _ _ hbw⟩
      have := C_of_all (k := .u8) (W := (Lib.bytesWorld W 5 s).setCells W.heap.size s.size (ys.map (Value.int .u8))) (x := ⟨W.heap.size, 0, none⟩) (zs := bytesOf s ++ ys) (by omega) (fun j hj => by
        rw [add_at, Nat.zero_add]
        rw [hlen] at hj
        by_cases hjs : j < s.size
        · rw [World.cell?_setCells_out _ _ _ _ _ (fun _ _ => .inl hjs), hold j hjs]
          rw [List.getElem_append_left]
        · have h := World.cell?_setCells_in W.heap.size (ys.map (Value.int .u8)) s.size (Lib.bytesWorld W 5 s) (fun k hk => bw_some W _ s _ (by simp at hk; omega)) (j - s.size) (by simp; omega)
          rw [show s.size + (j - s.size) = j by omega] at h
          rw [h, List.getElem_append_right (by rw [bytesOf_length]; omega)]
          simp [bytesOf_length])
      rw [hlen] at this
      exact this
    · obtain ⟨v', w', hr, hown, hg⟩ := run_append_arg_grows (P := Tryd.prog) (Lib.bytesWorld W 5 s) 22 ty 5 i (.int .u8 0) 1 1 Tryd.underlying22 hi hz0 hz1 hz2 rfl (by decide) ⟨W.heap.size, 0, none⟩ s.size (grownCap W s.size 0 5) ((bytesOf s).map (Value.int .u8)) (by simp [bytesOf_length])
        (fun j u hu => by
          rw [List.getElem?_map] at hu
          obtain ⟨y, hy1, hy2⟩ := Option.map_eq_some_iff.1 hu
          have hj : j < (bytesOf s).length := (List.getElem?_eq_some_iff.1 hy1).1
          rw [add_at, Nat.zero_add, ← hy2, hold j (by rw [bytesOf_length] at hj; exact hj)]
          rw [List.getElem?_eq_getElem hj] at hy1
          injection hy1 with hy1
          rw [hy1])
        ⟨ga, oa, none⟩ ys.length c (ys.map (Value.int .u8)) (by simp) hnews (by omega) (by unfold maxLen; omega) (by omega)
      rcases hown.2 with ⟨_, h0⟩ | ⟨g, cap, cur, rfl, _, hgg, _⟩
      · omega
      refine ⟨_, _, w', hr, ?_, (hbw.grown hg (by rw [Lib.bytesWorld_size]; omega) (fun k hk => by cases hk))⟩
      have := C_of_all (k := .u8) (W := w') (x := ⟨g, 0, none⟩) (zs := bytesOf s ++ ys) (by omega) (fun j hj => by
        refine hown.cells (g := g) rfl j _ ?_
        rw [← List.map_append, List.getElem?_map, List.getElem?_eq_getElem hj]
        rfl)
      rw [hlen] at this
      exact this
/-- an append whose run is known -/
theorem wpl_append_run {P : Program} {w : World} {ops : Array Oper} {rest : List Oper} {o : Oper} {a : Act} {Q : Exit → Act → World → Prop} (hgd : o.guard = none) (s x : Operand) (t : TypeId)
    (ho : o.op = .call { callee := .builtin .append, args := #[s, x], argTypes := #[t, t] }) (vs vx : Value) (hs : a.eval s = vs) (hx : a.eval x = vx) {v' : Value} {w' : World}
    (hr : (Builtin.append_ #[t, t] o.type #[vs, vx]).run P w = .ok v' w') (h : wpList P ops Q rest (a.put o.dst v') w') : wpList P ops Q (o :: rest) a w := by
  refine wpList_plain hgd fun K hK => ?_
  unfold Oper.wp execOp
  simp only [ho, resolve, invoke, builtin, Sem.run_bind, Sem.run_pure, Result.andThen_ok, List.map_toArray, List.map_cons, List.map_nil, hs, hx, hr]
  exact hK _ _ h
end Go.Proofs.YtlopjkfhkfbhlaaDoor.Dec
