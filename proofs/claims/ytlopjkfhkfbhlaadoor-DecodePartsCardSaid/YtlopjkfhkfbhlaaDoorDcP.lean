import Derived.Test.YtlopjkfhkfbhlaaDoorDcO
set_option linter.unusedVariables false
set_option linter.unusedSimpArgs false
namespace Go.Proofs.YtlopjkfhkfbhlaaDoor.Dec
open Go Go.RowKit Go.Proofs.YtlopjkfhkfbhlaaDoorW.PrintWords Go.Proofs.YtlopjkfhkfbhlaaDoorW.PrintLast Go.Proofs.YtlopjkfhkfbhlaaDoorW.PrintMore
theorem putS_1 {r : Int} (h0 : 0 ≤ r) (h1 : r < 128) : putS r = [r] := by
  unfold putS encS scalarB; rw [if_pos (by simp; omega), if_pos h1]
theorem putS_2 {r : Int} (h0 : 128 ≤ r) (h1 : r < 2048) : putS r = [192 + r / 64, 128 + r % 64] := by
  unfold putS encS scalarB; rw [if_pos (by simp; omega), if_neg (by omega), if_pos h1]
theorem putS_3 {r : Int} (h0 : 2048 ≤ r) (h1 : r < 65536) (h2 : r < 55296 ∨ 57343 < r) : putS r = [224 + r / 4096, 128 + r / 64 % 64, 128 + r % 64] := by
  unfold putS encS scalarB; rw [if_pos (by simp; omega), if_neg (by omega), if_neg (by omega), if_pos h1]
theorem putS_4 {r : Int} (h0 : 65536 ≤ r) (h1 : r ≤ 1114111) : putS r = [240 + r / 262144, 128 + r / 4096 % 64, 128 + r / 64 % 64, 128 + r % 64] := by
  unfold putS encS scalarB; rw [if_pos (by simp; omega), if_neg (by omega), if_neg (by omega), if_neg (by omega)]
theorem putS_bad {r : Int} (h : r < 0 ∨ 1114111 < r ∨ 55296 ≤ r ∧ r ≤ 57343) : putS r = [239, 191, 189] := by
  unfold putS scalarB; rw [if_neg (by simp; omega)]
theorem appNon_any (r : Int) (w : World) (hl : -2147483648 ≤ r) (hh : r < 2147483648) (hn : r < 0 ∨ 128 ≤ r) :
    Calls Tryd.prog 27 #[.slice none 0 0, .int .i32 r] w fun e w' => ∃ A c, e = .returned (.slice A (putS r).length c) ∧ (Kd.int .u8).R 5 w' w.heap.size (fun _ => True) (.slice A (putS r).length c) (putS r) ∧ Below w.heap.size w w' := by
  by_cases k1 : r < 0
  · exact app_neg r w k1 hl (putS_bad (.inl k1))
  by_cases k2 : r < 2048
  · exact app_2 r w (by omega) k2 (putS_2 (by omega) k2)
  by_cases k3 : r < 55296
  · exact app_3a r w (by omega) k3 (putS_3 (by omega) (by omega) (.inl k3))
  by_cases k4 : r ≤ 57343
  · exact app_sur r w (by omega) k4 (putS_bad (by omega))
  by_cases k5 : r < 65536
  · exact app_3b r w (by omega) k5 (putS_3 (by omega) k5 (by omega))
  by_cases k6 : r ≤ 1114111
  · exact app_4 r w (by omega) k6 (putS_4 (by omega) k6)
  · exact app_big r w (by omega) hh (putS_bad (by omega))
theorem appRune_any (r : Int) (w : World) (hl : -2147483648 ≤ r) (hh : r < 2147483648) :
    Calls Tryd.prog 21 #[.slice none 0 0, .int .i32 r] w fun e w' => ∃ A c, e = .returned (.slice A (putS r).length c) ∧ (Kd.int .u8).R 5 w' w.heap.size (fun _ => True) (.slice A (putS r).length c) (putS r) ∧ Below w.heap.size w w' := by
  by_cases k1 : r < 0
  · have H := Lib.hid (appNon_any r w hl hh (.inl k1))
    go_enter Tryd.func21, Tryd.ntmps21
    go_wp2_with (go_at_call 27; refine H.out.mono ?_; rintro e w1 ⟨A, c, rfl, hR, hb⟩)
    go_ret
    exact ⟨A, c, rfl, hR, hb⟩
  by_cases k2 : r < 128
  · exact app_1 r w (by omega) k2 (putS_1 (by omega) k2)
  · have H := Lib.hid (appNon_any r w hl hh (.inr (by omega)))
    go_enter Tryd.func21, Tryd.ntmps21
    go_wp2_with (go_at_call 27; refine H.out.mono ?_; rintro e w1 ⟨A, c, rfl, hR, hb⟩)
    go_ret
    exact ⟨A, c, rfl, hR, hb⟩
theorem put_any (r : Int) (w : World) (hl : -2147483648 ≤ r) (hh : r < 2147483648) :
    Calls Tryd.prog 13 #[.int .i32 r] w fun e w' => ∃ A c, e = .returned (.slice A (putS r).length c) ∧ (Kd.int .u8).R 5 w' w.heap.size (fun _ => True) (.slice A (putS r).length c) (putS r) ∧ Below w.heap.size w w' := by
  go_enter Tryd.func13, Tryd.ntmps13
  go_wp2_with (go_at_call 21; refine (appRune_any r _ hl hh).mono ?_; rintro e w1 ⟨A, c, rfl, hR, hb⟩)
  go_ret
  exact ⟨A, c, rfl, hR, hb⟩
theorem scalar_yes (r : Int) (w : World) (h : 0 ≤ r ∧ r < 55296 ∨ 57343 < r ∧ r ≤ 1114111) : Calls Tryd.prog 22 #[.int .i32 r] w fun e w' => e = .returned (.bool true) ∧ w = w' := by
  rcases h with ⟨h1, h2⟩ | ⟨h1, h2⟩
  · go_enter Tryd.func22, Tryd.ntmps22
    go_wp2
    go_ret
    exact ⟨rfl, rfl⟩
  · go_enter Tryd.func22, Tryd.ntmps22
    go_wp2
    go_ret
    exact ⟨rfl, rfl⟩
theorem scalar_no (r : Int) (w : World) (h : r < 0 ∨ 1114111 < r ∨ 55296 ≤ r ∧ r ≤ 57343) : Calls Tryd.prog 22 #[.int .i32 r] w fun e w' => e = .returned (.bool false) ∧ w = w' := by
  rcases h with h1 | h1 | ⟨h1, h2⟩
  · go_enter Tryd.func22, Tryd.ntmps22
    go_wp2
    go_ret
    exact ⟨rfl, rfl⟩
  · go_enter Tryd.func22, Tryd.ntmps22
    go_wp2
    go_ret
    exact ⟨rfl, rfl⟩
  · have d1 : decide (r < 55296) = false := by simp; omega
    have d2 : decide (57343 < r) = false := by simp; omega
    go_enter Tryd.func22, Tryd.ntmps22
    go_wp2
    go_ret
    exact ⟨rfl, rfl⟩
theorem i32_and63 {n : Int} (h0 : 0 ≤ n) (h1 : n < 2147483648) : bits .and .i32 n 63 = n % 64 := bits_mask .i32 31 (by decide) wraps_i32 6 (by decide) n h0 (by simpa using h1)
theorem i32_or128 {y : Int} (h0 : 0 ≤ y) (h1 : y < 64) : bits .or .i32 128 y = 128 + y := bits_join .i32 31 (by decide) wraps_i32 6 128 y (by decide) (by decide) (by decide) h0 h1 (by omega)
theorem i32_or192 {y : Int} (h0 : 0 ≤ y) (h1 : y < 32) : bits .or .i32 192 y = 192 + y := bits_join .i32 31 (by decide) wraps_i32 5 192 y (by decide) (by decide) (by decide) h0 h1 (by omega)
theorem i32_or224 {y : Int} (h0 : 0 ≤ y) (h1 : y < 16) : bits .or .i32 224 y = 224 + y := bits_join .i32 31 (by decide) wraps_i32 4 224 y (by decide) (by decide) (by decide) h0 h1 (by omega)
theorem i32_or240 {y : Int} (h0 : 0 ≤ y) (h1 : y < 8) : bits .or .i32 240 y = 240 + y := bits_join .i32 31 (by decide) wraps_i32 3 240 y (by decide) (by decide) (by decide) h0 h1 (by omega)
theorem or128_byte {x : Int} (h0 : 0 ≤ x) (h1 : x < 2147483648) : bits .or .i32 128 (bits .and .i32 x 63) % 256 = 128 + x % 64 := by
  rw [i32_and63 h0 h1, i32_or128 (by omega) (by omega)]
  omega
set_option maxHeartbeats 1000000 in
set_option maxRecDepth 100000 in
theorem rput_1 (r : Int) (w : World) (h0 : 0 ≤ r) (h1 : r < 128) :
    Calls Tryd.prog 14 #[.int .i32 r] w fun e w' => e = .returned (.string (strOfNums ([r]))) ∧ Below w.heap.size w w' := by
  have hcv := Kd.C_string (P := Tryd.prog) Tryd.underlying22 Tryd.underlying5 Tryd.underlying9 (n := ([r] : List Int).length) (c := ([r] : List Int).length) (lit_C 5 w ([r]) (by simp))
  have hcv' : Aside0 _ := ⟨hcv⟩
  clear hcv
  skip
  go_enter Tryd.func14, Tryd.ntmps14
  go_wp2_with (go_at_call 22; refine (scalar_yes r _ (by omega)).mono ?_; rintro e w1 ⟨rfl, rfl⟩; have hcv := hcv'.out; simp only [List.map_cons, List.map_nil, List.length_cons, List.length_nil, Nat.zero_add, Nat.reduceAdd] at hcv)
  go_ret
  exact ⟨rfl, below_alloc (Below.refl _ _) _⟩
set_option maxHeartbeats 1000000 in
set_option maxRecDepth 100000 in
theorem rput_2 (r : Int) (w : World) (h0 : 128 ≤ r) (h1 : r < 2048) :
    Calls Tryd.prog 14 #[.int .i32 r] w fun e w' => e = .returned (.string (strOfNums ([192 + r / 64, 128 + r % 64]))) ∧ Below w.heap.size w w' := by
  have hcv := Kd.C_string (P := Tryd.prog) Tryd.underlying22 Tryd.underlying5 Tryd.underlying9 (n := ([192 + r / 64, 128 + r % 64] : List Int).length) (c := ([192 + r / 64, 128 + r % 64] : List Int).length) (lit_C 5 w ([192 + r / 64, 128 + r % 64]) (by simp))
  have hcv' : Aside0 _ := ⟨hcv⟩
  clear hcv
  have e1 : bits .or .i32 192 (r / 64) = 192 + r / 64 := i32_or192 (by omega) (by omega)
  have e2 : bits .or .i32 128 (bits .and .i32 r 63) % 256 = 128 + r % 64 := or128_byte (by omega) (by omega)
  go_enter Tryd.func14, Tryd.ntmps14
  go_wp2_with (go_at_call 22; refine (scalar_yes r _ (by omega)).mono ?_; rintro e w1 ⟨rfl, rfl⟩; have hcv := hcv'.out; simp only [List.map_cons, List.map_nil, List.length_cons, List.length_nil, Nat.zero_add, Nat.reduceAdd] at hcv)
  go_ret
  exact ⟨rfl, below_alloc (Below.refl _ _) _⟩
set_option maxHeartbeats 1000000 in
set_option maxRecDepth 100000 in
theorem rput_3 (r : Int) (w : World) (h0 : 2048 ≤ r) (h1 : r < 65536) (h2 : r < 55296 ∨ 57343 < r) :
    Calls Tryd.prog 14 #[.int .i32 r] w fun e w' => e = .returned (.string (strOfNums ([224 + r / 4096, 128 + r / 64 % 64, 128 + r % 64]))) ∧ Below w.heap.size w w' := by
  have hcv := Kd.C_string (P := Tryd.prog) Tryd.underlying22 Tryd.underlying5 Tryd.underlying9 (n := ([224 + r / 4096, 128 + r / 64 % 64, 128 + r % 64] : List Int).length) (c := ([224 + r / 4096, 128 + r / 64 % 64, 128 + r % 64] : List Int).length) (lit_C 5 w ([224 + r / 4096, 128 + r / 64 % 64, 128 + r % 64]) (by simp))
  have hcv' : Aside0 _ := ⟨hcv⟩
  clear hcv
  have h2' := Aside0.mk h2
  clear h2
  have e1 : bits .or .i32 224 (r / 4096) = 224 + r / 4096 := i32_or224 (by omega) (by omega)
  have e2 : bits .or .i32 128 (bits .and .i32 r 63) % 256 = 128 + r % 64 := or128_byte (by omega) (by omega)
  have e3 : bits .or .i32 128 (bits .and .i32 (r / 64) 63) % 256 = 128 + r / 64 % 64 := or128_byte (by omega) (by omega)
  go_enter Tryd.func14, Tryd.ntmps14
  go_wp2_with (go_at_call 22; refine (scalar_yes r _ (by have := h2'.out; omega)).mono ?_; rintro e w1 ⟨rfl, rfl⟩; have hcv := hcv'.out; simp only [List.map_cons, List.map_nil, List.length_cons, List.length_nil, Nat.zero_add, Nat.reduceAdd] at hcv)
  go_ret
  exact ⟨rfl, below_alloc (Below.refl _ _) _⟩
set_option maxHeartbeats 1000000 in
set_option maxRecDepth 100000 in
theorem rput_4 (r : Int) (w : World) (h0 : 65536 ≤ r) (h1 : r ≤ 1114111) :
    Calls Tryd.prog 14 #[.int .i32 r] w fun e w' => e = .returned (.string (strOfNums ([240 + r / 262144, 128 + r / 4096 % 64, 128 + r / 64 % 64, 128 + r % 64]))) ∧ Below w.heap.size w w' := by
  have hcv := Kd.C_string (P := Tryd.prog) Tryd.underlying22 Tryd.underlying5 Tryd.underlying9 (n := ([240 + r / 262144, 128 + r / 4096 % 64, 128 + r / 64 % 64, 128 + r % 64] : List Int).length) (c := ([240 + r / 262144, 128 + r / 4096 % 64, 128 + r / 64 % 64, 128 + r % 64] : List Int).length) (lit_C 5 w ([240 + r / 262144, 128 + r / 4096 % 64, 128 + r / 64 % 64, 128 + r % 64]) (by simp))
  have hcv' : Aside0 _ := ⟨hcv⟩
  clear hcv
  have e1 : bits .or .i32 240 (r / 262144) = 240 + r / 262144 := i32_or240 (by omega) (by omega)
  have e2 : bits .or .i32 128 (bits .and .i32 r 63) % 256 = 128 + r % 64 := or128_byte (by omega) (by omega)
  have e3 : bits .or .i32 128 (bits .and .i32 (r / 64) 63) % 256 = 128 + r / 64 % 64 := or128_byte (by omega) (by omega)
  have e4 : bits .or .i32 128 (bits .and .i32 (r / 4096) 63) % 256 = 128 + r / 4096 % 64 := or128_byte (by omega) (by omega)
  go_enter Tryd.func14, Tryd.ntmps14
  go_wp2_with (go_at_call 22; refine (scalar_yes r _ (by omega)).mono ?_; rintro e w1 ⟨rfl, rfl⟩; have hcv := hcv'.out; simp only [List.map_cons, List.map_nil, List.length_cons, List.length_nil, Nat.zero_add, Nat.reduceAdd] at hcv)
  go_ret
  exact ⟨rfl, below_alloc (Below.refl _ _) _⟩
set_option maxHeartbeats 1000000 in
set_option maxRecDepth 100000 in
theorem rput_bad (r : Int) (w : World) (h : r < 0 ∨ 1114111 < r ∨ 55296 ≤ r ∧ r ≤ 57343) :
    Calls Tryd.prog 14 #[.int .i32 r] w fun e w' => e = .returned (.string (strOfNums ([239, 191, 189]))) ∧ Below w.heap.size w w' := by
  have hcv := Kd.C_string (P := Tryd.prog) Tryd.underlying22 Tryd.underlying5 Tryd.underlying9 (n := ([239, 191, 189] : List Int).length) (c := ([239, 191, 189] : List Int).length) (lit_C 5 w ([239, 191, 189]) (by simp))
  have hcv' : Aside0 _ := ⟨hcv⟩
  clear hcv
  have hh := Aside0.mk h
  have e1 : bits .or .i32 224 15 = 239 := by decide
  have e2 : bits .and .i32 1023 63 = 63 := by decide
  have e3 : bits .or .i32 128 63 = 191 := by decide
  have e4 : bits .and .i32 65533 63 = 61 := by decide
  have e5 : bits .or .i32 128 61 = 189 := by decide
  clear h
  go_enter Tryd.func14, Tryd.ntmps14
  go_wp2_with (go_at_call 22; refine (scalar_no r _ hh.out).mono ?_; rintro e w1 ⟨rfl, rfl⟩; have hcv := hcv'.out; simp only [List.map_cons, List.map_nil, List.length_cons, List.length_nil, Nat.zero_add, Nat.reduceAdd] at hcv)
  go_ret
  exact ⟨rfl, below_alloc (Below.refl _ _) _⟩
theorem rput_any (r : Int) (w : World) : Calls Tryd.prog 14 #[.int .i32 r] w fun e w' => e = .returned (.string (strOfNums (putS r))) ∧ Below w.heap.size w w' := by
  by_cases k1 : r < 0 ∨ 1114111 < r ∨ 55296 ≤ r ∧ r ≤ 57343
  · rw [putS_bad k1]
    exact rput_bad r w k1
  by_cases k2 : r < 128
  · rw [putS_1 (by omega) k2]
    exact rput_1 r w (by omega) k2
  by_cases k3 : r < 2048
  · rw [putS_2 (by omega) k3]
    exact rput_2 r w (by omega) k3
  by_cases k4 : r < 65536
  · rw [putS_3 (by omega) k4 (by omega)]
    exact rput_3 r w (by omega) k4 (by omega)
  · rw [putS_4 (by omega) (by omega)]
    exact rput_4 r w (by omega) (by omega)
end Go.Proofs.YtlopjkfhkfbhlaaDoor.Dec
