import Derived.Test.YtlopjkfhkfbhlaaDoorDcN
set_option linter.unusedVariables false
set_option linter.unusedSimpArgs false
namespace Go.Proofs.YtlopjkfhkfbhlaaDoor.Dec
open Go Go.RowKit Go.Proofs.YtlopjkfhkfbhlaaDoorW.PrintWords Go.Proofs.YtlopjkfhkfbhlaaDoorW.PrintLast Go.Proofs.YtlopjkfhkfbhlaaDoorW.PrintMore
def scalarB (r : Int) : Bool := decide (0 ≤ r) && decide (r ≤ 1114111) && (decide (r < 55296) || decide (57343 < r))
def encS (r : Int) : List Int :=
  if r < 128 then [r] else if r < 2048 then [192 + r / 64, 128 + r % 64] else if r < 65536 then [224 + r / 4096, 128 + r / 64 % 64, 128 + r % 64] else [240 + r / 262144, 128 + r / 4096 % 64, 128 + r / 64 % 64, 128 + r % 64]
def putS (r : Int) : List Int := if scalarB r = true then encS r else [239, 191, 189]
theorem lit_row {k : IntKind} (e : TypeId) (w : World) (B : Nat) (hB : B ≤ w.heap.size) (xs : List Int) (hl : xs.length ≤ 9223372036854775807) :
    (Kd.int k).R e (w.alloc (.cells (xs.map (Value.int k)).toArray e)) B (fun _ => True) (.slice (some ⟨w.heap.size, 0, none⟩) xs.length xs.length) xs := by
  refine ⟨fun _ _ => trivial, xs.map (Value.int k), ?_, ?_⟩
  · have h2 := World.ownsRow_lit (base := B) (e := e) (size := 1) w (xs.map (Value.int k)).toArray xs.length hB (by simpa [maxLen] using hl) (by simp)
    show (w.alloc _).ownsRow B e 1 _ _ _
    simpa using h2
  · have := Kd.reps_scalar (enc := Value.int k) xs
    exact this
theorem lit_C {k : IntKind} (e : TypeId) (w : World) (xs : List Int) (hl : xs.length ≤ 9223372036854775807) : Kd.C (Kd.int k) (w.alloc (.cells (xs.map (Value.int k)).toArray e)) (some ⟨w.heap.size, 0, none⟩) xs.length xs :=
  (Kd.R_reads' (lit_row e w w.heap.size (Nat.le_refl _) xs hl)).2.2
set_option maxHeartbeats 1000000 in
set_option maxRecDepth 100000 in
theorem app_2 (r : Int) (w : World) (h0 : 128 ≤ r) (h1 : r < 2048) (hE : putS r = [192 + r / 64, 128 + r % 64]) :
    Calls Tryd.prog 27 #[.slice none 0 0, .int .i32 r] w fun e w' => ∃ A c, e = .returned (.slice A (putS r).length c) ∧ (Kd.int .u8).R 5 w' w.heap.size (fun _ => True) (.slice A (putS r).length c) (putS r) ∧ Below w.heap.size w w' := by
  rw [hE]
  clear hE
  go_enter Tryd.func27, Tryd.ntmps27
  go_wp2_with ((with_reducible refine gate_builtin (b := .append) (xs := #[.tmp 14, .tmp 23]) rfl ?_); refine Kd.R_append_row (Value.int .u8) 0 _ ?hg (.tmp 14) (.tmp 23) 22 5 (.int .u8 0) _ rfl ?ht info_u8 ?hz ?hb0 (.slice none 0 0) [] ([192 + r / 64, 128 + r % 64]) (some ⟨w.heap.size, 0, none⟩) _ _ (fun _ => True) rfl rfl (fun _ _ => trivial) (Kd.R_nil _ _ _ _ _) (lit_C 5 w ([192 + r / 64, 128 + r % 64]) (by simp)) (Below.refl _ _) (show w.heap.size ≤ _ by simp) ?hl ?_; (case hg => rfl); (case ht => exact Tryd.underlying22); (case hz => rfl); (case hb0 => decide); (case hl => simp); intro v1 w1 hR hb hg hn)
  go_ret
  obtain ⟨A1, c1, rfl⟩ := Kd.R_slice hR
  exact ⟨A1, c1, rfl, hR, (below_alloc (Below.refl _ _) _).trans hb⟩
set_option maxHeartbeats 1000000 in
set_option maxRecDepth 100000 in
theorem app_3a (r : Int) (w : World) (h0 : 2048 ≤ r) (h1 : r < 55296) (hE : putS r = [224 + r / 4096, 128 + r / 64 % 64, 128 + r % 64]) :
    Calls Tryd.prog 27 #[.slice none 0 0, .int .i32 r] w fun e w' => ∃ A c, e = .returned (.slice A (putS r).length c) ∧ (Kd.int .u8).R 5 w' w.heap.size (fun _ => True) (.slice A (putS r).length c) (putS r) ∧ Below w.heap.size w w' := by
  rw [hE]
  clear hE
  go_enter Tryd.func27, Tryd.ntmps27
  go_wp2_with ((with_reducible refine gate_builtin (b := .append) (xs := #[.tmp 34, .tmp 48]) rfl ?_); refine Kd.R_append_row (Value.int .u8) 0 _ ?hg (.tmp 34) (.tmp 48) 22 5 (.int .u8 0) _ rfl ?ht info_u8 ?hz ?hb0 (.slice none 0 0) [] ([224 + r / 4096, 128 + r / 64 % 64, 128 + r % 64]) (some ⟨w.heap.size, 0, none⟩) _ _ (fun _ => True) rfl rfl (fun _ _ => trivial) (Kd.R_nil _ _ _ _ _) (lit_C 5 w ([224 + r / 4096, 128 + r / 64 % 64, 128 + r % 64]) (by simp)) (Below.refl _ _) (show w.heap.size ≤ _ by simp) ?hl ?_; (case hg => rfl); (case ht => exact Tryd.underlying22); (case hz => rfl); (case hb0 => decide); (case hl => simp); intro v1 w1 hR hb hg hn)
  go_ret
  obtain ⟨A1, c1, rfl⟩ := Kd.R_slice hR
  exact ⟨A1, c1, rfl, hR, (below_alloc (Below.refl _ _) _).trans hb⟩
set_option maxHeartbeats 1000000 in
set_option maxRecDepth 100000 in
theorem app_3b (r : Int) (w : World) (h0 : 57343 < r) (h1 : r < 65536) (hE : putS r = [224 + r / 4096, 128 + r / 64 % 64, 128 + r % 64]) :
    Calls Tryd.prog 27 #[.slice none 0 0, .int .i32 r] w fun e w' => ∃ A c, e = .returned (.slice A (putS r).length c) ∧ (Kd.int .u8).R 5 w' w.heap.size (fun _ => True) (.slice A (putS r).length c) (putS r) ∧ Below w.heap.size w w' := by
  rw [hE]
  clear hE
  go_enter Tryd.func27, Tryd.ntmps27
  go_wp2_with ((with_reducible refine gate_builtin (b := .append) (xs := #[.tmp 34, .tmp 48]) rfl ?_); refine Kd.R_append_row (Value.int .u8) 0 _ ?hg (.tmp 34) (.tmp 48) 22 5 (.int .u8 0) _ rfl ?ht info_u8 ?hz ?hb0 (.slice none 0 0) [] ([224 + r / 4096, 128 + r / 64 % 64, 128 + r % 64]) (some ⟨w.heap.size, 0, none⟩) _ _ (fun _ => True) rfl rfl (fun _ _ => trivial) (Kd.R_nil _ _ _ _ _) (lit_C 5 w ([224 + r / 4096, 128 + r / 64 % 64, 128 + r % 64]) (by simp)) (Below.refl _ _) (show w.heap.size ≤ _ by simp) ?hl ?_; (case hg => rfl); (case ht => exact Tryd.underlying22); (case hz => rfl); (case hb0 => decide); (case hl => simp); intro v1 w1 hR hb hg hn)
  go_ret
  obtain ⟨A1, c1, rfl⟩ := Kd.R_slice hR
  exact ⟨A1, c1, rfl, hR, (below_alloc (Below.refl _ _) _).trans hb⟩
set_option maxHeartbeats 1000000 in
set_option maxRecDepth 100000 in
theorem app_4 (r : Int) (w : World) (h0 : 65536 ≤ r) (h1 : r ≤ 1114111) (hE : putS r = [240 + r / 262144, 128 + r / 4096 % 64, 128 + r / 64 % 64, 128 + r % 64]) :
    Calls Tryd.prog 27 #[.slice none 0 0, .int .i32 r] w fun e w' => ∃ A c, e = .returned (.slice A (putS r).length c) ∧ (Kd.int .u8).R 5 w' w.heap.size (fun _ => True) (.slice A (putS r).length c) (putS r) ∧ Below w.heap.size w w' := by
  rw [hE]
  clear hE
  go_enter Tryd.func27, Tryd.ntmps27
  go_wp2_with ((with_reducible refine gate_builtin (b := .append) (xs := #[.tmp 57, .tmp 76]) rfl ?_); refine Kd.R_append_row (Value.int .u8) 0 _ ?hg (.tmp 57) (.tmp 76) 22 5 (.int .u8 0) _ rfl ?ht info_u8 ?hz ?hb0 (.slice none 0 0) [] ([240 + r / 262144, 128 + r / 4096 % 64, 128 + r / 64 % 64, 128 + r % 64]) (some ⟨w.heap.size, 0, none⟩) _ _ (fun _ => True) rfl rfl (fun _ _ => trivial) (Kd.R_nil _ _ _ _ _) (lit_C 5 w ([240 + r / 262144, 128 + r / 4096 % 64, 128 + r / 64 % 64, 128 + r % 64]) (by simp)) (Below.refl _ _) (show w.heap.size ≤ _ by simp) ?hl ?_; (case hg => rfl); (case ht => exact Tryd.underlying22); (case hz => rfl); (case hb0 => decide); (case hl => simp); intro v1 w1 hR hb hg hn)
  go_ret
  obtain ⟨A1, c1, rfl⟩ := Kd.R_slice hR
  exact ⟨A1, c1, rfl, hR, (below_alloc (Below.refl _ _) _).trans hb⟩
set_option maxHeartbeats 1000000 in
set_option maxRecDepth 100000 in
theorem app_sur (r : Int) (w : World) (h0 : 55296 ≤ r) (h1 : r ≤ 57343) (hE : putS r = [239, 191, 189]) :
    Calls Tryd.prog 27 #[.slice none 0 0, .int .i32 r] w fun e w' => ∃ A c, e = .returned (.slice A (putS r).length c) ∧ (Kd.int .u8).R 5 w' w.heap.size (fun _ => True) (.slice A (putS r).length c) (putS r) ∧ Below w.heap.size w w' := by
  rw [hE]
  clear hE
  go_enter Tryd.func27, Tryd.ntmps27
  go_wp2_with ((with_reducible refine gate_builtin (b := .append) (xs := #[.tmp 8, .tmp 9]) rfl ?_); refine Kd.R_append_row (Value.int .u8) 0 _ ?hg (.tmp 8) (.tmp 9) 22 5 (.int .u8 0) _ rfl ?ht info_u8 ?hz ?hb0 (.slice none 0 0) [] ([239, 191, 189]) (some ⟨w.heap.size, 0, none⟩) _ _ (fun _ => True) rfl rfl (fun _ _ => trivial) (Kd.R_nil _ _ _ _ _) (lit_C 5 w ([239, 191, 189]) (by simp)) (Below.refl _ _) (show w.heap.size ≤ _ by simp) ?hl ?_; (case hg => rfl); (case ht => exact Tryd.underlying22); (case hz => rfl); (case hb0 => decide); (case hl => simp); intro v1 w1 hR hb hg hn)
  go_ret
  obtain ⟨A1, c1, rfl⟩ := Kd.R_slice hR
  exact ⟨A1, c1, rfl, hR, (below_alloc (Below.refl _ _) _).trans hb⟩
set_option maxHeartbeats 1000000 in
set_option maxRecDepth 100000 in
theorem app_big (r : Int) (w : World) (h0 : 1114111 < r) (h1 : r < 2147483648) (hE : putS r = [239, 191, 189]) :
    Calls Tryd.prog 27 #[.slice none 0 0, .int .i32 r] w fun e w' => ∃ A c, e = .returned (.slice A (putS r).length c) ∧ (Kd.int .u8).R 5 w' w.heap.size (fun _ => True) (.slice A (putS r).length c) (putS r) ∧ Below w.heap.size w w' := by
  rw [hE]
  clear hE
  go_enter Tryd.func27, Tryd.ntmps27
  go_wp2_with ((with_reducible refine gate_builtin (b := .append) (xs := #[.tmp 8, .tmp 9]) rfl ?_); refine Kd.R_append_row (Value.int .u8) 0 _ ?hg (.tmp 8) (.tmp 9) 22 5 (.int .u8 0) _ rfl ?ht info_u8 ?hz ?hb0 (.slice none 0 0) [] ([239, 191, 189]) (some ⟨w.heap.size, 0, none⟩) _ _ (fun _ => True) rfl rfl (fun _ _ => trivial) (Kd.R_nil _ _ _ _ _) (lit_C 5 w ([239, 191, 189]) (by simp)) (Below.refl _ _) (show w.heap.size ≤ _ by simp) ?hl ?_; (case hg => rfl); (case ht => exact Tryd.underlying22); (case hz => rfl); (case hb0 => decide); (case hl => simp); intro v1 w1 hR hb hg hn)
  go_ret
  obtain ⟨A1, c1, rfl⟩ := Kd.R_slice hR
  exact ⟨A1, c1, rfl, hR, (below_alloc (Below.refl _ _) _).trans hb⟩
set_option maxHeartbeats 1000000 in
set_option maxRecDepth 100000 in
theorem app_neg (r : Int) (w : World) (h0 : r < 0) (h1 : -2147483648 ≤ r) (hE : putS r = [239, 191, 189]) :
    Calls Tryd.prog 27 #[.slice none 0 0, .int .i32 r] w fun e w' => ∃ A c, e = .returned (.slice A (putS r).length c) ∧ (Kd.int .u8).R 5 w' w.heap.size (fun _ => True) (.slice A (putS r).length c) (putS r) ∧ Below w.heap.size w w' := by
  rw [hE]
  clear hE
  go_enter Tryd.func27, Tryd.ntmps27
  go_wp2_with ((with_reducible refine gate_builtin (b := .append) (xs := #[.tmp 8, .tmp 9]) rfl ?_); refine Kd.R_append_row (Value.int .u8) 0 _ ?hg (.tmp 8) (.tmp 9) 22 5 (.int .u8 0) _ rfl ?ht info_u8 ?hz ?hb0 (.slice none 0 0) [] ([239, 191, 189]) (some ⟨w.heap.size, 0, none⟩) _ _ (fun _ => True) rfl rfl (fun _ _ => trivial) (Kd.R_nil _ _ _ _ _) (lit_C 5 w ([239, 191, 189]) (by simp)) (Below.refl _ _) (show w.heap.size ≤ _ by simp) ?hl ?_; (case hg => rfl); (case ht => exact Tryd.underlying22); (case hz => rfl); (case hb0 => decide); (case hl => simp); intro v1 w1 hR hb hg hn)
  go_ret
  obtain ⟨A1, c1, rfl⟩ := Kd.R_slice hR
  exact ⟨A1, c1, rfl, hR, (below_alloc (Below.refl _ _) _).trans hb⟩
set_option maxHeartbeats 1000000 in
set_option maxRecDepth 100000 in
theorem app_1 (r : Int) (w : World) (h0 : 0 ≤ r) (h1 : r < 128) (hE : putS r = [r]) :
    Calls Tryd.prog 21 #[.slice none 0 0, .int .i32 r] w fun e w' => ∃ A c, e = .returned (.slice A (putS r).length c) ∧ (Kd.int .u8).R 5 w' w.heap.size (fun _ => True) (.slice A (putS r).length c) (putS r) ∧ Below w.heap.size w w' := by
  rw [hE]
  clear hE
  go_enter Tryd.func21, Tryd.ntmps21
  go_wp2_with ((with_reducible refine gate_builtin (b := .append) (xs := #[.tmp 8, .tmp 11]) rfl ?_); refine Kd.R_append_row (Value.int .u8) 0 _ ?hg (.tmp 8) (.tmp 11) 22 5 (.int .u8 0) _ rfl ?ht info_u8 ?hz ?hb0 (.slice none 0 0) [] ([r]) (some ⟨w.heap.size, 0, none⟩) _ _ (fun _ => True) rfl rfl (fun _ _ => trivial) (Kd.R_nil _ _ _ _ _) (lit_C 5 w ([r]) (by simp)) (Below.refl _ _) (show w.heap.size ≤ _ by simp) ?hl ?_; (case hg => rfl); (case ht => exact Tryd.underlying22); (case hz => rfl); (case hb0 => decide); (case hl => simp); intro v1 w1 hR hb hg hn)
  go_ret
  obtain ⟨A1, c1, rfl⟩ := Kd.R_slice hR
  exact ⟨A1, c1, rfl, hR, (below_alloc (Below.refl _ _) _).trans hb⟩
end Go.Proofs.YtlopjkfhkfbhlaaDoor.Dec
