import Derived.Test.YtlopjkfhkfbhlaaDoorWWords
import Derived.Test.YtlopjkfhkfbhlaaDoorWLast
import Derived.Test.YtlopjkfhkfbhlaaDoorWMore
import Derived.WalkSpells
import Derived.WalkSmall
import Derived.Test.YtlopjkfhkfbhlaaDoorProg
set_option linter.unusedVariables false
set_option linter.unusedSimpArgs false
namespace Go.Proofs.YtlopjkfhkfbhlaaDoor.Dec
open Go Go.RowKit Go.Proofs.YtlopjkfhkfbhlaaDoorW.PrintWords Go.Proofs.YtlopjkfhkfbhlaaDoorW.PrintLast Go.Proofs.YtlopjkfhkfbhlaaDoorW.PrintMore
theorem info_u8 : (Tryd.prog.info? 5).map (fun i => (i.zero, i.size, i.bytes)) = some (some (.int .u8 0), 1, 1) := by kernel_rfl

set_option maxHeartbeats 400000 in
theorem clone_nil (c : Nat) (w : World) : Calls Tryd.prog 36 #[.slice none 0 c] w fun e w' => e = .returned (.slice none 0 0) ∧ w = w' := by
  have hq := fun (w : World) => Lib.run_eql_slice_nil (P := Tryd.prog) w 22 5 none 0 c 0 0 Tryd.underlying22
  go_enter Tryd.func36, Tryd.ntmps36
  go_wp2
  go_ret
  exact ⟨rfl, rfl⟩
set_option maxHeartbeats 400000 in
theorem clone_some (a : Addr) (xs : List Int) (c : Nat) (w : World) (hr : Kd.C (Kd.int .u8) w (some a) xs.length xs) (hc : xs.length ≤ c) (hl : xs.length ≤ 140737488355328) :
    Calls Tryd.prog 36 #[.slice (some a) xs.length c] w fun e w' => ∃ v, e = .returned v ∧ Kd.R (Kd.int .u8) 5 w' w.heap.size (fun _ => True) v xs ∧ Below w.heap.size w w' := by
  have hq := fun (w : World) => Lib.run_eql_slice_nil (P := Tryd.prog) w 22 5 (some a) xs.length c 0 0 Tryd.underlying22
  go_enter Tryd.func36, Tryd.ntmps36
  go_wp2_with (first | ((with_reducible refine gate_dst (N := 5) rfl ?_); refine Kd.R_lit (Kd.int .u8) _ 5 ?hg (N := 5) ?hd (xs := ([] : List Int)) (inner := []) (ok := fun _ => True) (okp := fun _ => True) ?hr ?hp (fun _ hk => hk) trivial (Below.refl _ _) (Nat.le_refl _) (by simp) ?_; (case hd => rfl); (case hg => rfl); (case hr => first | (go_simp; done) | (go_simp; rfl)); (case hp => exact Reps.none _ _); intro v w_v hv hb_v hg_v hn_v) | ((with_reducible refine gate_builtin (b := .append) (xs := #[.tmp 5, .tmp 6]) rfl ?_); refine Kd.R_append_row (Value.int .u8) (0) _ ?hg (.tmp 5) (.tmp 6) 22 5 (.int .u8 0) _ rfl ?ht info_u8 ?hz ?hb0 (v) ([]) (xs) (some a) (xs.length) (c) (fun _ => True) rfl rfl (fun _ _ => trivial) (hv) (Kd.C_below hr hb_v) (hb_v) (hb_v.size) ?hl ?_; (case hg => rfl); (case ht => exact Tryd.underlying22); (case hz => rfl); (case hb0 => decide); (case hl => (simp; omega)); intro v1 w_v1 hv1 hb_v1 hg_v1 hn_v1))
  go_ret
  exact ⟨_, rfl, hv1, hb_v1⟩

theorem clone_any (A : Option Addr) (xs : List Int) (c : Nat) (w : World) (hr : Kd.C (Kd.int .u8) w A xs.length xs) (hc : xs.length ≤ c) (hl : xs.length ≤ 140737488355328) :
    Calls Tryd.prog 36 #[.slice A xs.length c] w fun e w' => ∃ v, e = .returned v ∧ Kd.R (Kd.int .u8) 5 w' w.heap.size (fun _ => True) v xs ∧ Below w.heap.size w w' := by
  cases A with
  | none =>
    have hx : xs = [] := by
      cases xs with
      | nil => rfl
      | cons x r => obtain ⟨ad, h, _⟩ := hr.2.2 (by simp); cases h
    subst hx
    refine (clone_nil c w).mono ?_
    rintro e w' ⟨rfl, rfl⟩
    exact ⟨_, rfl, Kd.R_nil _ _ _ _ _, Below.refl _ _⟩
  | some a => exact clone_some a xs c w hr hc hl

/-- which bytes may go on what is held -/
def longF (c : Int) : Int := if c < 128 then 1 else if 194 ≤ c ∧ c ≤ 223 then 2 else if 224 ≤ c ∧ c ≤ 239 then 3 else if 240 ≤ c ∧ c ≤ 244 then 4 else 0
def secLo (c : Int) : Int := if c = 224 then 160 else if c = 240 then 144 else 128
def secHi (c : Int) : Int := if c = 237 then 159 else if c = 244 then 143 else 191
def growOk (held : List Int) (c : Int) : Bool :=
  match held with
  | [] => decide (longF c ≠ 0)
  | [h] => decide (secLo h ≤ c) && decide (c ≤ secHi h)
  | _ => decide (128 ≤ c) && decide (c ≤ 191)

theorem longF_1 {c : Int} (h : c < 128) : longF c = 1 := by unfold longF; rw [if_pos h]
theorem longF_0 {c : Int} (h : 128 ≤ c) (h' : c < 194) : longF c = 0 := by unfold longF; repeat rw [if_neg (by omega)]
theorem longF_2 {c : Int} (h : 194 ≤ c) (h' : c ≤ 223) : longF c = 2 := by unfold longF; rw [if_neg (by omega), if_pos (by omega)]
theorem longF_3 {c : Int} (h : 224 ≤ c) (h' : c ≤ 239) : longF c = 3 := by unfold longF; rw [if_neg (by omega), if_neg (by omega), if_pos (by omega)]
theorem longF_4 {c : Int} (h : 240 ≤ c) (h' : c ≤ 244) : longF c = 4 := by unfold longF; rw [if_neg (by omega), if_neg (by omega), if_neg (by omega), if_pos (by omega)]
theorem longF_5 {c : Int} (h : 245 ≤ c) : longF c = 0 := by unfold longF; repeat rw [if_neg (by omega)]

set_option maxHeartbeats 400000 in
theorem long_same (c : Int) (w : World) : Calls Tryd.prog 33 #[.int .u8 c] w fun e w' => e = .returned (.int .i64 (longF c)) ∧ w' = w := by
  by_cases h1 : c < 128
  · go_enter Tryd.func33, Tryd.ntmps33
    go_wp2
    go_ret
    exact ⟨by rw [longF_1 h1]; rfl, rfl⟩
  by_cases h2 : c < 194
  · go_enter Tryd.func33, Tryd.ntmps33
    go_wp2
    go_ret
    exact ⟨by rw [longF_0 (by omega) h2]; rfl, rfl⟩
  by_cases h3 : c ≤ 223
  · go_enter Tryd.func33, Tryd.ntmps33
    go_wp2
    go_ret
    exact ⟨by rw [longF_2 (by omega) h3]; rfl, rfl⟩
  by_cases h4 : c ≤ 239
  · go_enter Tryd.func33, Tryd.ntmps33
    go_wp2
    go_ret
    exact ⟨by rw [longF_3 (by omega) h4]; rfl, rfl⟩
  by_cases h5 : c ≤ 244
  · go_enter Tryd.func33, Tryd.ntmps33
    go_wp2
    go_ret
    exact ⟨by rw [longF_4 (by omega) h5]; rfl, rfl⟩
  · go_enter Tryd.func33, Tryd.ntmps33
    go_wp2
    go_ret
    exact ⟨by rw [longF_5 (by omega)]; rfl, rfl⟩
theorem long_any (c : Int) (w : World) : Calls Tryd.prog 33 #[.int .u8 c] w fun e w' => e = .returned (.int .i64 (longF c)) ∧ Drawn0 w w' :=
  (long_same c w).mono fun e w' h => ⟨h.1, h.2 ▸ Drawn0.refl _⟩
set_option maxHeartbeats 400000 in
theorem second_any (c : Int) (w : World) : Calls Tryd.prog 35 #[.int .u8 c] w fun e w' => e = .returned (.tuple #[.int .u8 (secLo c), .int .u8 (secHi c)]) ∧ Drawn0 w w' := by
  by_cases h1 : c = 224
  · subst h1
    go_enter Tryd.func35, Tryd.ntmps35
    go_wp2
    go_ret2
    exact ⟨rfl, Drawn0.refl _⟩
  by_cases h2 : c = 237
  · subst h2
    go_enter Tryd.func35, Tryd.ntmps35
    go_wp2
    go_ret2
    exact ⟨rfl, Drawn0.refl _⟩
  by_cases h3 : c = 240
  · subst h3
    go_enter Tryd.func35, Tryd.ntmps35
    go_wp2
    go_ret2
    exact ⟨rfl, Drawn0.refl _⟩
  by_cases h4 : c = 244
  · subst h4
    go_enter Tryd.func35, Tryd.ntmps35
    go_wp2
    go_ret2
    exact ⟨rfl, Drawn0.refl _⟩
  have H1 := beq_eq_false_iff_ne.2 h1
  have H2 := beq_eq_false_iff_ne.2 h2
  have H3 := beq_eq_false_iff_ne.2 h3
  have H4 := beq_eq_false_iff_ne.2 h4
  have HV : Aside0 (secLo c = 128 ∧ secHi c = 191) := ⟨by unfold secLo secHi; rw [if_neg h1, if_neg h2, if_neg h3, if_neg h4]; exact ⟨rfl, rfl⟩⟩
  clear h1 h2 h3 h4
  go_enter Tryd.func35, Tryd.ntmps35
  go_wp2
  go_ret2
  exact ⟨by rw [HV.out.1, HV.out.2]; rfl, Drawn0.refl _⟩
end Go.Proofs.YtlopjkfhkfbhlaaDoor.Dec
