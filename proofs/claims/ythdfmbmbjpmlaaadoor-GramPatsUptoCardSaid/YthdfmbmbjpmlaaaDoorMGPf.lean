/- texts of this claim, one behind the other. -/
import Derived.Test.YthdfmbmbjpmlaaaDoorMGPe
import Derived.Test.YthdfmbmbjpmlaaaDoorMGPb
import Derived.Test.YthdfmbmbjpmlaaaDoorRows
import Derived.Lib.LaidU8T
import Derived.LaidOnce
import Derived.Lay
import Derived.OpenShut
import Derived.SizedLaws
import Derived.ProofKit
import Derived.SevenTiedAt
section
set_option linter.unusedVariables false
set_option linter.unusedSimpArgs false
namespace Go.Proofs.YthdfmbmbjpmlaaaDoor.Rn
open Go Go.RowKit Go.Proofs.YthdfmbmbjpmlaaaDoorW.PrintWords Go.Proofs.YthdfmbmbjpmlaaaDoorW.PrintLast Go.Proofs.YthdfmbmbjpmlaaaDoorW.PrintMore
set_option maxHeartbeats 200000000 in
set_option maxRecDepth 100000 in
theorem pat_c7 {Q : Exit → Act → World → Prop} {u0 u4 u5 u6 u7 u8 u10 u14 u15 u16 u17 u18 u19 u20 u21 u22 u23 u24 u25 u26 u27 u28 u29 u30 u31 u32 u33 u34 u35 u37 u38 u39 u40 u41 u42 u43 u44 u45 u46 u47 u48 u49 u50 u51 u52 u53 u54 u55 u56 u57 u58 u59 u60 u61 u62 u63 u64 u65 u66 u67 u68 u69 u70 u71 u72 u73 u74 u75 u76 u77 u78 u79 u80 u81 u82 u83 u84 u85 u86 u87 u88 u89 u90 u91 u92 u93 u94 u95 u96 u97 u98 u99 u100 u101 u102 u103 u104 u105 u106 u107 u108 u109 u110 u111 u112 u113 u114 u115 u116 u117 u118 u119 u120 u121 u122 u123 u124 u125 u126 u127 u128 u129 u130 u131 u132 u133 u134 u135 u136 u137 u138 u139 u140 u141 u142 u143 u144 u145 u146 u147 u148 u149 u150 u151 u152 u153 u154 u155 u156 u157 u158 u159 u160 u161 u162 u163 u164 u165 u166 u167 u168 u169 u170 u171 u172 u173 u174 u175 u176 u177 u178 u179 u180 u181 u182 u183 u184 u185 u186 u187 u188 u189 u190 u191 u192 u193 u194 u195 u196 u197 u198 u199 u200 u201 u202 u203 u204 u205 u206 u207 u208 u209 u210 u211 u212 u213 u214 : Value} {W w1 w2 : World} {okA : Nat → Prop} {xs : List Pt} {k : Int} {ins calls rets : List ByteArray} {A1 A2 A3 : Option Addr} {c1 c2 c3 : Nat} {d : Nat} {B : Option Addr} {v : Nat} (hA : ∀ q, okA q → q < W.heap.size) (hB0 : Below W.heap.size W w1) (hT1 : TxtIn W okA A1 ins c1) (hT2 : TxtIn W okA A2 calls c2) (hT3 : TxtIn W okA A3 rets c3) (hS2 : PatAt w1 w2 okA (.slice B xs.length d) xs) (hV : IntKind.u64.wrap k % 11 = (v : Int)) (hv3 : 3 ≤ v) (hv11 : v < 11) (hx5 : 5 < v → 0 < xs.length) (hM8 : xs.length + 1 ≤ 8)
 (hP : ∀ (c : List PanicEntry) (a a' : Act) (w : World), a'.defers = a.defers → Q (.panic c) a' w → Q (.panic c) a w) (hQ : ∀ (v55 v56 v57 v58 v59 v60 v61 v62 v63 v64 v65 v66 v67 v68 v69 v70 v71 v72 v73 v74 v75 v76 v77 v78 v79 v80 v81 v82 v83 v84 v85 v86 v87 v88 v89 v90 v91 v92 v93 v94 v95 v96 v97 v98 v99 v100 v101 v102 v103 v104 v105 v106 v107 v108 v109 v110 v111 v112 v113 v114 v115 v116 v117 v118 v119 v120 v121 v122 v123 v124 v125 v126 v127 v128 v129 v130 v131 v132 v133 v134 v135 v136 v137 v138 v139 v140 v141 v142 v143 v144 v145 v146 v147 v148 v149 v150 v151 v152 v153 v154 v155 v156 v157 v158 v159 v160 v161 v162 v163 v164 v165 v166 v167 v168 v169 v170 v171 v172 v173 v174 v175 v176 v177 v178 v179 v180 v181 v182 v183 v184 v185 v186 v187 v188 v189 v190 v191 v192 v193 : Value) (A9 : Option Addr) (n9 c9 : Nat) (xs9 : List Pt) (w9 : World), n9 = xs9.length → patNext ins calls rets xs k = xs9 → xs9.length ≤ xs.length + 1 → PatAt w1 w9 okA (.slice A9 n9 c9) xs9 → Q .normal ⟨#[u0, .slice A1 ins.length c1, .slice A2 calls.length c2, .slice A3 rets.length c3, u4, u5, u6, u7, u8, .slice A9 n9 c9, u10, .int .i64 (xs.length : Int), .int .i64 k, .int .i64 (v : Int), u14, u15, u16, u17, u18, u19, u20, u21, u22, u23, u24, u25, u26, u27, u28, u29, u30, u31, u32, u33, u34, u35, .bool false, u37, u38, u39, u40, u41, u42, u43, u44, u45, u46, u47, u48, u49, u50, u51, u52, u53, u54, v55, v56, v57, v58, v59, v60, v61, v62, v63, v64, v65, v66, v67, v68, v69, v70, v71, v72, v73, v74, v75, v76, v77, v78, v79, v80, v81, v82, v83, v84, v85, v86, v87, v88, v89, v90, v91, v92, v93, v94, v95, v96, v97, v98, v99, v100, v101, v102, v103, v104, v105, v106, v107, v108, v109, v110, v111, v112, v113, v114, v115, v116, v117, v118, v119, v120, v121, v122, v123, v124, v125, v126, v127, v128, v129, v130, v131, v132, v133, v134, v135, v136, v137, v138, v139, v140, v141, v142, v143, v144, v145, v146, v147, v148, v149, v150, v151, v152, v153, v154, v155, v156, v157, v158, v159, v160, v161, v162, v163, v164, v165, v166, v167, v168, v169, v170, v171, v172, v173, v174, v175, v176, v177, v178, v179, v180, v181, v182, v183, v184, v185, v186, v187, v188, v189, v190, v191, v192, v193, u194, u195, u196, u197, u198, u199, u200, u201, u202, u203, u204, u205, u206, u207, u208, u209, u210, u211, u212, u213, u214], []⟩ w9) :
 Code.wp Tryd.prog (behindOf Tryd.f17 7) Q ⟨#[u0, .slice A1 ins.length c1, .slice A2 calls.length c2, .slice A3 rets.length c3, u4, u5, u6, u7, u8, .slice B xs.length d, u10, .int .i64 (xs.length : Int), .int .i64 k, .int .i64 (v : Int), u14, u15, u16, u17, u18, u19, u20, u21, u22, u23, u24, u25, u26, u27, u28, u29, u30, u31, u32, u33, u34, u35, .bool false, u37, u38, u39, u40, u41, u42, u43, u44, u45, u46, u47, u48, u49, u50, u51, u52, u53, u54, u55, u56, u57, u58, u59, u60, u61, u62, u63, u64, u65, u66, u67, u68, u69, u70, u71, u72, u73, u74, u75, u76, u77, u78, u79, u80, u81, u82, u83, u84, u85, u86, u87, u88, u89, u90, u91, u92, u93, u94, u95, u96, u97, u98, u99, u100, u101, u102, u103, u104, u105, u106, u107, u108, u109, u110, u111, u112, u113, u114, u115, u116, u117, u118, u119, u120, u121, u122, u123, u124, u125, u126, u127, u128, u129, u130, u131, u132, u133, u134, u135, u136, u137, u138, u139, u140, u141, u142, u143, u144, u145, u146, u147, u148, u149, u150, u151, u152, u153, u154, u155, u156, u157, u158, u159, u160, u161, u162, u163, u164, u165, u166, u167, u168, u169, u170, u171, u172, u173, u174, u175, u176, u177, u178, u179, u180, u181, u182, u183, u184, u185, u186, u187, u188, u189, u190, u191, u192, u193, u194, u195, u196, u197, u198, u199, u200, u201, u202, u203, u204, u205, u206, u207, u208, u209, u210, u211, u212, u213, u214], []⟩ w2 := by
 have HA := Aside0.mk hA
 have HB0 := Aside0.mk hB0
 have HT1 := Aside0.mk hT1
 have HT2 := Aside0.mk hT2
 have HT3 := Aside0.mk hT3
 have HQf := Aside0.mk hQ
 have HPQ := Aside0.mk hP
 have HS2 := Aside0.mk hS2
 have HV := Aside0.mk hV
 clear hP hQ hS2 hV hA hB0 hT1 hT2 hT3
 dsimp (config := { beta := false, eta := false, iota := false, proj := false, decide := false }) only
 conv in (behindOf _ _) => whnf
 go_upto_region 9 with (fail)
 by_cases hcase : v = 3
 · skip
   have u3 : ((v : Int) == 3) = true := beq_iff_eq.2 (by omega)
   have HP := Aside0.mk (patNext_well ins calls rets xs k v HV.out hcase)
   clear hcase
   have HQ := HS2
   have HFK : Aside0 (Kd.FK kPt w2 (fun _ => False) ⟨4, [], [], []⟩ [.int .i64 4, .slice none 0 0, .slice none 0 0, .slice none 0 0]) := ⟨k37_mkF w2 _ ⟨4, [], [], []⟩ (show 0 ≤ 0 from Nat.le_refl _) (Kd.F_nil _ _ _) (show 0 ≤ 0 from Nat.le_refl _) (Kd.F_nil _ _ _) (show 0 ≤ 0 from Nat.le_refl _) (Kd.F_nil _ _ _)⟩
   go_wp2_with ((with_reducible refine gate_builtin (b := .append) (xs := #[.tmp 58, .tmp 60]) rfl ?_); refine Kd.N_append kPt (w0 := w1) w1.heap.size ?hg (.tmp 58) (.tmp 60) 35 37 (.agg #[.int .i64 0, .slice none 0 0, .slice none 0 0, .slice none 0 0]) 80 rfl ?ht (by as_aux_lemma => kernel_rfl) rfl (by decide) (by decide) (.slice B xs.length d) xs (⟨4, [], [], []⟩) [.int .i64 4, .slice none 0 0, .slice none 0 0, .slice none 0 0] (fun q => okA q ∨ w1.heap.size ≤ q) (fun _ => False) rfl ?hx HFK.out (fun q hq => hq.elim) (fun q hq => Or.inr (Nat.le_trans HQ.out.b.size hq)) HQ.out.n HQ.out.b HQ.out.b.size (by omega) ?_; (case hg => rfl); (case hx => first | rfl | simp [Act.eval]); (case ht => exact Tryd.underlying35); intro v9 w4 hN hB hgr hat; obtain ⟨A9, c9, hv9⟩ := Kd.N_slice hN; subst hv9; have HX := Aside0.mk (PatAt.mk hN hB); clear hN hB hgr hat)
   first | skip | go_wp2
   refine HQf.out _ _ _ _ _ _ _ _ _ _ _ _ _ _ _ _ _ _ _ _ _ _ _ _ _ _ _ _ _ _ _ _ _ _ _ _ _ _ _ _ _ _ _ _ _ _ _ _ _ _ _ _ _ _ _ _ _ _ _ _ _ _ _ _ _ _ _ _ _ _ _ _ _ _ _ _ _ _ _ _ _ _ _ _ _ _ _ _ _ _ _ _ _ _ _ _ _ _ _ _ _ _ _ _ _ _ _ _ _ _ _ _ _ _ _ _ _ _ _ _ _ _ _ _ _ _ _ _ _ _ _ _ _ _ _ _ _ _ _ A9 _ c9 (xs ++ [⟨4, [], [], []⟩]) _ (by rw [List.length_append]; rfl) HP.out (by simp) (by have h := HX.out; rw [List.length_append] at h; exact h)
 · skip
   have u3 : ((v : Int) == 3) = false := beq_eq_false_iff_ne.2 (by omega)
   go_upto_region 11 with (fail)
   by_cases hc4 : v = 4
   · skip
     have u4 : ((v : Int) == 4) = true := beq_iff_eq.2 (by omega)
     have hcase : v = 4 := hc4
     clear hc4
     have HP := Aside0.mk (patNext_empty ins calls rets xs k v HV.out hcase)
     clear hcase
     have HQ := HS2
     have HFK : Aside0 (Kd.FK kPt w2 (fun _ => False) ⟨1, [], [], []⟩ [.int .i64 1, .slice none 0 0, .slice none 0 0, .slice none 0 0]) := ⟨k37_mkF w2 _ ⟨1, [], [], []⟩ (show 0 ≤ 0 from Nat.le_refl _) (Kd.F_nil _ _ _) (show 0 ≤ 0 from Nat.le_refl _) (Kd.F_nil _ _ _) (show 0 ≤ 0 from Nat.le_refl _) (Kd.F_nil _ _ _)⟩
     go_wp2_with ((with_reducible refine gate_builtin (b := .append) (xs := #[.tmp 65, .tmp 67]) rfl ?_); refine Kd.N_append kPt (w0 := w1) w1.heap.size ?hg (.tmp 65) (.tmp 67) 35 37 (.agg #[.int .i64 0, .slice none 0 0, .slice none 0 0, .slice none 0 0]) 80 rfl ?ht (by as_aux_lemma => kernel_rfl) rfl (by decide) (by decide) (.slice B xs.length d) xs (⟨1, [], [], []⟩) [.int .i64 1, .slice none 0 0, .slice none 0 0, .slice none 0 0] (fun q => okA q ∨ w1.heap.size ≤ q) (fun _ => False) rfl ?hx HFK.out (fun q hq => hq.elim) (fun q hq => Or.inr (Nat.le_trans HQ.out.b.size hq)) HQ.out.n HQ.out.b HQ.out.b.size (by omega) ?_; (case hg => rfl); (case hx => first | rfl | simp [Act.eval]); (case ht => exact Tryd.underlying35); intro v9 w4 hN hB hgr hat; obtain ⟨A9, c9, hv9⟩ := Kd.N_slice hN; subst hv9; have HX := Aside0.mk (PatAt.mk hN hB); clear hN hB hgr hat)
     first | skip | go_wp2
     refine HQf.out _ _ _ _ _ _ _ _ _ _ _ _ _ _ _ _ _ _ _ _ _ _ _ _ _ _ _ _ _ _ _ _ _ _ _ _ _ _ _ _ _ _ _ _ _ _ _ _ _ _ _ _ _ _ _ _ _ _ _ _ _ _ _ _ _ _ _ _ _ _ _ _ _ _ _ _ _ _ _ _ _ _ _ _ _ _ _ _ _ _ _ _ _ _ _ _ _ _ _ _ _ _ _ _ _ _ _ _ _ _ _ _ _ _ _ _ _ _ _ _ _ _ _ _ _ _ _ _ _ _ _ _ _ _ _ _ _ _ _ A9 _ c9 (xs ++ [⟨1, [], [], []⟩]) _ (by rw [List.length_append]; rfl) HP.out (by simp) (by have h := HX.out; rw [List.length_append] at h; exact h)
   · skip
     have u4 : ((v : Int) == 4) = false := beq_eq_false_iff_ne.2 (by omega)
     go_upto_region 13 with (fail)
     by_cases hc5 : v = 5
     · skip
       have u5 : ((v : Int) == 5) = true := beq_iff_eq.2 (by omega)
       have hcase : v = 5 := hc5
       clear hc5
       have HP := Aside0.mk (patNext_in ins calls rets xs k v HV.out hcase)
       clear hcase
       go_upto_region 14 with (fail)
       refine pat_reg14 (k := k) (ins := ins) (calls := calls) (rets := rets) (A1 := A1) (A2 := A2) (A3 := A3) (c1 := c1) (c2 := c2) (c3 := c3) (d := d) (okA := okA) HA.out HB0.out HT2.out HT3.out HS2.out (by omega) (fun c a a' w hd h => HPQ.out c a a' w hd h) ?_
       intro v72 v73 v74 v75 v76 v77 v78 v79 v80 v81 v82 v83 v84 v85 v86 v87 v88 v89 v90 v91 A9 n9 c9 w9 h9 hx9
       have HX := Aside0.mk hx9
       have HN9 := Aside0.mk h9
       clear hx9 h9
       first | skip | go_wp2
       obtain rfl := HN9.out
       refine HQf.out _ _ _ _ _ _ _ _ _ _ _ _ _ _ _ _ _ _ _ _ _ _ _ _ _ _ _ _ _ _ _ _ _ _ _ _ _ _ _ _ _ _ _ _ _ _ _ _ _ _ _ _ _ _ _ _ _ _ _ _ _ _ _ _ _ _ _ _ _ _ _ _ _ _ _ _ _ _ _ _ _ _ _ _ _ _ _ _ _ _ _ _ _ _ _ _ _ _ _ _ _ _ _ _ _ _ _ _ _ _ _ _ _ _ _ _ _ _ _ _ _ _ _ _ _ _ _ _ _ _ _ _ _ _ _ _ _ _ _ A9 _ c9 (xs ++ [⟨3, pickS calls (wrap64 (k.tdiv 11)), pickS rets (wrap64 (k.tdiv 13)), [⟨if bits .and .i64 (wrap64 (k.tdiv 17)) 1 = 1 then 4 else 1, [], [], []⟩]⟩]) w9 rfl HP.out ?_ HX.out
       first | (have := HJ.out; simp; omega) | simp
     · skip
       have u5 : ((v : Int) == 5) = false := beq_eq_false_iff_ne.2 (by omega)
       go_upto_if 69 with (fail)
       refine pat_c13 (k := k) (ins := ins) (calls := calls) (rets := rets) (A1 := A1) (A2 := A2) (A3 := A3) (c1 := c1) (c2 := c2) (c3 := c3) (d := d) (okA := okA) HA.out HB0.out HT1.out HT2.out HT3.out HS2.out HV.out (by omega) hv11 (hx5 (by omega)) hM8 (fun c a a' w hd h => HPQ.out c a a' w hd h) ?_
       intro v92 v93 v94 v95 v96 v97 v98 v99 v100 v101 v102 v103 v104 v105 v106 v107 v108 v109 v110 v111 v112 v113 v114 v115 v116 v117 v118 v119 v120 v121 v122 v123 v124 v125 v126 v127 v128 v129 v130 v131 v132 v133 v134 v135 v136 v137 v138 v139 v140 v141 v142 v143 v144 v145 v146 v147 v148 v149 v150 v151 v152 v153 v154 v155 v156 v157 v158 v159 v160 v161 v162 v163 v164 v165 v166 v167 v168 v169 v170 v171 v172 v173 v174 v175 v176 v177 v178 v179 v180 v181 v182 v183 v184 v185 v186 v187 v188 v189 v190 v191 v192 v193 A9 n9 c9 xs9 w9 h1 h2 h3 h4
       exact HQf.out _ _ _ _ _ _ _ _ _ _ _ _ _ _ _ _ _ _ _ _ _ _ _ _ _ _ _ _ _ _ _ _ _ _ _ _ _ _ _ _ _ _ _ _ _ _ _ _ _ _ _ _ _ _ _ _ _ _ _ _ _ _ _ _ _ _ _ _ _ _ _ _ _ _ _ _ _ _ _ _ _ _ _ _ _ _ _ _ _ _ _ _ _ _ _ _ _ _ _ _ _ _ _ _ _ _ _ _ _ _ _ _ _ _ _ _ _ _ _ _ _ _ _ _ _ _ _ _ _ _ _ _ _ _ _ _ _ _ _ A9 n9 c9 xs9 w9 h1 h2 h3 h4
end Go.Proofs.YthdfmbmbjpmlaaaDoor.Rn
end
section
set_option linter.unusedVariables false
set_option linter.unusedSimpArgs false
namespace Go.Proofs.YthdfmbmbjpmlaaaDoor.Rn
open Go Go.RowKit Go.Proofs.YthdfmbmbjpmlaaaDoorW.PrintWords Go.Proofs.YthdfmbmbjpmlaaaDoorW.PrintLast Go.Proofs.YthdfmbmbjpmlaaaDoorW.PrintMore
set_option maxHeartbeats 200000000 in
set_option maxRecDepth 100000 in
theorem pat_reg29 {Q : Exit → Act → World → Prop} {u0 u1 u2 u3 u4 u5 u6 u7 u8 u10 u11 u12 u13 u16 u17 u18 u19 u20 u21 u22 u23 u24 u25 u26 u27 u28 u29 u30 u31 u32 u33 u34 u35 u36 u37 u38 u39 u40 u41 u42 u43 u44 u45 u46 u47 u48 u49 u50 u51 u52 u53 u54 u55 u56 u57 u58 u59 u60 u61 u62 u63 u64 u65 u66 u67 u68 u69 u70 u71 u72 u73 u74 u75 u76 u77 u78 u79 u80 u81 u82 u83 u84 u85 u86 u87 u88 u89 u90 u91 u92 u93 u94 u95 u96 u97 u98 u99 u100 u101 u102 u103 u104 u105 u106 u107 u108 u109 u110 u111 u112 u113 u114 u115 u116 u117 u118 u119 u120 u121 u122 u123 u124 u125 u126 u127 u128 u129 u130 u131 u132 u133 u134 u135 u136 u137 u138 u139 u140 u141 u142 u143 u144 u145 u146 u147 u148 u149 u150 u151 u152 u153 u154 u155 u156 u157 u158 u159 u160 u161 u162 u163 u164 u165 u166 u167 u168 u169 u170 u171 u172 u173 u174 u175 u176 u177 u178 u179 u180 u181 u182 u183 u184 u185 u186 u187 u188 u189 u190 u191 u192 u193 u194 u195 u196 u197 u198 u199 u200 u201 u202 u203 u204 u205 u206 u207 u208 u209 u210 u211 u212 u213 u214 : Value} {W w1 w2 : World} {okA : Nat → Prop} {xs : List Pt} {k : Int} {ins calls rets : List ByteArray} {A1 A2 A3 : Option Addr} {c1 c2 c3 : Nat} {d : Nat} {g2 gC n : Nat} {wS : World} {pq : Pt} (hA : ∀ q, okA q → q < W.heap.size) (hB0 : Below W.heap.size W w1) (hQ0 : PatAt w1 wS okA (.slice (some ⟨g2, 0, none⟩) xs.length d) xs) (hS0 : SeqAt wS w2 gC (fun q => (okA q ∨ w1.heap.size ≤ q) ∧ q ≠ gC) pq) (hgC : wS.heap.size = gC) (hlt : n + 1 < xs.length) (hx8 : xs.length ≤ 8)
 (hP : ∀ (c : List PanicEntry) (a a' : Act) (w : World), a'.defers = a.defers → Q (.panic c) a' w → Q (.panic c) a w) (hQ : ∀ (v207 v208 v209 v210 v211 v212 v213 : Value) (w9 : World), SeqAt wS w9 gC (fun q => (okA q ∨ w1.heap.size ≤ q) ∧ q ≠ gC) ⟨5, [], [], [pq, xs.getD (n + 1) ptZ]⟩ → Q .normal ⟨#[u0, u1, u2, u3, u4, u5, u6, u7, u8, .slice (some ⟨g2, 0, none⟩) xs.length d, u10, u11, u12, u13, .pointer (some ⟨gC, 0, none⟩), .int .i64 ((n : Int) + 1), u16, u17, u18, u19, u20, u21, u22, u23, u24, u25, u26, u27, u28, u29, u30, u31, u32, u33, u34, u35, u36, u37, u38, u39, u40, u41, u42, u43, u44, u45, u46, u47, u48, u49, u50, u51, u52, u53, u54, u55, u56, u57, u58, u59, u60, u61, u62, u63, u64, u65, u66, u67, u68, u69, u70, u71, u72, u73, u74, u75, u76, u77, u78, u79, u80, u81, u82, u83, u84, u85, u86, u87, u88, u89, u90, u91, u92, u93, u94, u95, u96, u97, u98, u99, u100, u101, u102, u103, u104, u105, u106, u107, u108, u109, u110, u111, u112, u113, u114, u115, u116, u117, u118, u119, u120, u121, u122, u123, u124, u125, u126, u127, u128, u129, u130, u131, u132, u133, u134, u135, u136, u137, u138, u139, u140, u141, u142, u143, u144, u145, u146, u147, u148, u149, u150, u151, u152, u153, u154, u155, u156, u157, u158, u159, u160, u161, u162, u163, u164, u165, u166, u167, u168, u169, u170, u171, u172, u173, u174, u175, u176, u177, u178, u179, u180, u181, u182, u183, u184, u185, u186, u187, u188, u189, u190, u191, u192, u193, u194, u195, u196, u197, u198, u199, u200, u201, u202, u203, u204, u205, u206, v207, v208, v209, v210, v211, v212, v213, u214], []⟩ w9) :
 Code.wp Tryd.prog (Code.region 29 (opsOf Tryd.f17 29) true) Q ⟨#[u0, u1, u2, u3, u4, u5, u6, u7, u8, .slice (some ⟨g2, 0, none⟩) xs.length d, u10, u11, u12, u13, .pointer (some ⟨gC, 0, none⟩), .int .i64 ((n : Int) + 1), u16, u17, u18, u19, u20, u21, u22, u23, u24, u25, u26, u27, u28, u29, u30, u31, u32, u33, u34, u35, u36, u37, u38, u39, u40, u41, u42, u43, u44, u45, u46, u47, u48, u49, u50, u51, u52, u53, u54, u55, u56, u57, u58, u59, u60, u61, u62, u63, u64, u65, u66, u67, u68, u69, u70, u71, u72, u73, u74, u75, u76, u77, u78, u79, u80, u81, u82, u83, u84, u85, u86, u87, u88, u89, u90, u91, u92, u93, u94, u95, u96, u97, u98, u99, u100, u101, u102, u103, u104, u105, u106, u107, u108, u109, u110, u111, u112, u113, u114, u115, u116, u117, u118, u119, u120, u121, u122, u123, u124, u125, u126, u127, u128, u129, u130, u131, u132, u133, u134, u135, u136, u137, u138, u139, u140, u141, u142, u143, u144, u145, u146, u147, u148, u149, u150, u151, u152, u153, u154, u155, u156, u157, u158, u159, u160, u161, u162, u163, u164, u165, u166, u167, u168, u169, u170, u171, u172, u173, u174, u175, u176, u177, u178, u179, u180, u181, u182, u183, u184, u185, u186, u187, u188, u189, u190, u191, u192, u193, u194, u195, u196, u197, u198, u199, u200, u201, u202, u203, u204, u205, u206, u207, u208, u209, u210, u211, u212, u213, u214], []⟩ w2 := by
 have HA := Aside0.mk hA
 have HB0 := Aside0.mk hB0
 have HQf := Aside0.mk hQ
 have HPQ := Aside0.mk hP
 clear hP hQ hA hB0
 conv in (opsOf _ _) => whnf
 have HQ := Aside0.mk hQ0
 have HGC := Aside0.mk hgC
 have HS2 : Aside0 (SeqAt wS w2 gC (fun q => (okA q ∨ w1.heap.size ≤ q) ∧ q ≠ gC) pq ∧ True) := ⟨⟨hS0, trivial⟩⟩
 obtain ⟨csq, hbq, hFKq⟩ := HS2.out.1.h
 obtain ⟨P1q, r1q, P2q, r2q, P3q, r3q, rfl, _, _, _, _, _, _⟩ := k37_open (Kd.FK_now hFKq)
 have HEq := Aside0.mk hFKq
 have HBq := Aside0.mk hbq
 clear hbq hFKq hS0 hQ0 hgC
 obtain ⟨csb, hclb, hFKb, hccb, _⟩ := Kd.N_elem HQ.out.n ptZ ((n + 1 : Nat) : Int) (by omega) (by omega)
 rw [Int.toNat_natCast] at hFKb hccb
 obtain ⟨pb, hpb⟩ : ∃ p, xs.getD (n + 1) ptZ = p := ⟨_, rfl⟩
 rw [hpb] at hFKb
 obtain ⟨P1b, r1b, P2b, r2b, P3b, r3b, rfl, _, _, _, _, _, _⟩ := k37_open (Kd.FK_now hFKb)
 have HEb := Aside0.mk (Kd.FK_bound hFKb)
 have HCb := Aside0.mk hccb
 have HPB := Aside0.mk hpb
 have hi1 : (n : Int) + 1 < (xs.length : Int) := by omega
 have hi0 : (0 : Int) ≤ (n : Int) + 1 := by omega
 have hn8 : (n : Int) ≤ 8 := by omega
 have hjk1 := pat_k1 n hn8
 clear hccb hclb hFKb hpb hlt hx8
 obtain ⟨wd, hwd⟩ : ∃ x, w2.drew = x := ⟨_, rfl⟩
 have HDR : Aside0 (Below w2.heap.size w2 wd) := ⟨hwd ▸ below_drew1 (Below.refl _ _)⟩
 have HLW := HDR
 refine Ord.region_L (S := fun w' => ∃ p : Later w2, w' = p.wx) (L := 7) (by as_aux_lemma => kernel_rfl) ?_
 rw [hwd]
 clear hwd
 have yq0 : ∀ p : Later w2, p.wx.cell? ⟨gC, 0, none⟩ = some (.int .i64 pq.f0) := fun p => cell_after p.below ((blk_cell HBq.out 0).trans rfl)
 have yq1 : ∀ p : Later w2, p.wx.cell? ⟨gC, 1, none⟩ = some (.slice P1q pq.f1.length r1q) := fun p => cell_after p.below ((blk_cell HBq.out 1).trans rfl)
 have yq2 : ∀ p : Later w2, p.wx.cell? ⟨gC, 2, none⟩ = some (.slice P2q pq.f2.length r2q) := fun p => cell_after p.below ((blk_cell HBq.out 2).trans rfl)
 have yq3 : ∀ p : Later w2, p.wx.cell? ⟨gC, 3, none⟩ = some (.slice P3q pq.f3.length r3q) := fun p => cell_after p.below ((blk_cell HBq.out 3).trans rfl)
 have yb0 : ∀ p : Later w2, p.wx.cell? ⟨g2, (n + 1) * 4 + 0, none⟩ = some (.int .i64 pb.f0) := fun p => cell_after p.below (cell_after HS2.out.1.b (HCb.out 0 _ rfl))
 have yb1 : ∀ p : Later w2, p.wx.cell? ⟨g2, (n + 1) * 4 + 1, none⟩ = some (.slice P1b pb.f1.length r1b) := fun p => cell_after p.below (cell_after HS2.out.1.b (HCb.out 1 _ rfl))
 have yb2 : ∀ p : Later w2, p.wx.cell? ⟨g2, (n + 1) * 4 + 2, none⟩ = some (.slice P2b pb.f2.length r2b) := fun p => cell_after p.below (cell_after HS2.out.1.b (HCb.out 2 _ rfl))
 have yb3 : ∀ p : Later w2, p.wx.cell? ⟨g2, (n + 1) * 4 + 3, none⟩ = some (.slice P3b pb.f3.length r3b) := fun p => cell_after p.below (cell_after HS2.out.1.b (HCb.out 3 _ rfl))
 simp only [Nat.add_zero] at yb0
 ((refine Ord.takeL (i := 0) (by rfl) (by as_aux_lemma => kernel_rfl) ?_ ?_ ?_); (focus first | exact fun _ _ _ _ h => h | exact fun _ _ _ _ h => HPQ.out _ _ _ _ (by rfl) h); (focus exact ⟨⟨_, HLW.out⟩, rfl⟩); intro K hK; go_simp; (with_reducible refine hK _ ?_); clear hK K)
 ((refine Ord.takeL (i := 1) (by rfl) (by as_aux_lemma => kernel_rfl) ?_ ?_ ?_); (focus first | exact fun _ _ _ _ h => h | exact fun _ _ _ _ h => HPQ.out _ _ _ _ (by rfl) h); (focus exact ⟨⟨_, HLW.out⟩, rfl⟩); intro K hK; go_simp; (with_reducible refine hK _ ?_); clear hK K)
 ((refine Ord.takeL (i := 2) (by rfl) (by as_aux_lemma => kernel_rfl) ?_ ?_ ?_); (focus first | exact fun _ _ _ _ h => h | exact fun _ _ _ _ h => HPQ.out _ _ _ _ (by rfl) h); (focus exact ⟨⟨_, HLW.out⟩, rfl⟩); intro K hK; go_simp; (with_reducible refine hK _ ?_); clear hK K)
 ((refine Ord.takeL (i := 3) (by rfl) (by as_aux_lemma => kernel_rfl) ?_ ?_ ?_); (focus first | exact fun _ _ _ _ h => h | exact fun _ _ _ _ h => HPQ.out _ _ _ _ (by rfl) h); (focus exact ⟨⟨_, HLW.out⟩, rfl⟩); intro K hK; go_simp; (with_reducible refine hK _ ?_); clear hK K)
 ((refine Ord.takeL (i := 4) (by rfl) (by as_aux_lemma => kernel_rfl) ?_ ?_ ?_); (focus first | exact fun _ _ _ _ h => h | exact fun _ _ _ _ h => HPQ.out _ _ _ _ (by rfl) h); (focus exact ⟨⟨_, HLW.out⟩, rfl⟩); intro K hK; go_simp; (with_reducible refine hK _ ?_); clear hK K)
 clear yq0 yq1 yq2 yq3 yb0 yb1 yb2 yb3 hjk1 hi1 hi0
 have HQ0 := HQ
 have HQ := Aside0.mk (HQ.out.later (join_below HS2.out.1.b HDR.out))
 refine Ord.allL1 (i := 5) (by as_aux_lemma => kernel_rfl) (by rfl) (fun K hK => ?_)
 go_simp
 obtain ⟨wB, hv⟩ : ∃ x, wd.alloc (.cells #[.int .i64 pq.f0, .slice P1q pq.f1.length r1q, .slice P2q pq.f2.length r2q, .slice P3q pq.f3.length r3q, .int .i64 pb.f0, .slice P1b pb.f1.length r1b, .slice P2b pb.f2.length r2b, .slice P3b pb.f3.length r3b] 37) = x := ⟨_, rfl⟩
 rw [hv]
 obtain ⟨gB, hg⟩ : ∃ x, wd.heap.size = x := ⟨_, rfl⟩
 rw [hg]
 have BKB : Aside0 (wB.heap[gB]? = some (.cells #[.int .i64 pq.f0, .slice P1q pq.f1.length r1q, .slice P2q pq.f2.length r2q, .slice P3q pq.f3.length r3q, .int .i64 pb.f0, .slice P1b pb.f1.length r1b, .slice P2b pb.f2.length r2b, .slice P3b pb.f3.length r3b] 37 (0, 0))) := ⟨by rw [← hv, ← hg]; exact blk_new _ _⟩
 have STB : Aside0 (Below wd.heap.size wd wB) := ⟨hv ▸ below1 _ _⟩
 have GSB : Aside0 (wd.heap.size = gB) := ⟨hg⟩
 have HLW := Aside0.mk (join_below HLW.out STB.out)
 have HQB := HQ
 have HQ := Aside0.mk (HQ.out.later STB.out)
 clear hv hg
 refine hK _ _ ⟨⟨_, HLW.out⟩, rfl⟩ ?_
 clear hK K
 ((refine Ord.takeL (i := 6) (by rfl) (by as_aux_lemma => kernel_rfl) ?_ ?_ ?_); (focus first | exact fun _ _ _ _ h => h | exact fun _ _ _ _ h => HPQ.out _ _ _ _ (by rfl) h); (focus exact ⟨⟨_, HLW.out⟩, rfl⟩); intro K hK; go_simp; (with_reducible refine hK _ ?_); clear hK K)
 have y0 : World.cell? wB ⟨gC, 0, none⟩ = some (.int .i64 pq.f0) := cell_after HLW.out ((blk_cell HBq.out 0).trans rfl)
 have z0 := blk_frozen (blk_below HBq.out HLW.out) 0
 have y1 : World.cell? wB ⟨gC, 1, none⟩ = some (.slice P1q pq.f1.length r1q) := cell_after HLW.out ((blk_cell HBq.out 1).trans rfl)
 have z1 := blk_frozen (blk_below HBq.out HLW.out) 1
 have y2 : World.cell? wB ⟨gC, 2, none⟩ = some (.slice P2q pq.f2.length r2q) := cell_after HLW.out ((blk_cell HBq.out 2).trans rfl)
 have z2 := blk_frozen (blk_below HBq.out HLW.out) 2
 have y3 : World.cell? wB ⟨gC, 3, none⟩ = some (.slice P3q pq.f3.length r3q) := cell_after HLW.out ((blk_cell HBq.out 3).trans rfl)
 have z3 := blk_frozen (blk_below HBq.out HLW.out) 3
 refine Ord.lastL (by as_aux_lemma => kernel_rfl) (by rfl) (by decide) (fun K hK => ?_)
 go_simp
 clear y0 y1 y2 y3 z0 z1 z2 z3
 refine hK _ _ ?_
 clear hK K
 have hgB : w1.heap.size ≤ gB ∧ gC < gB := by have h1 := blk_lt HBq.out; have h2 := HDR.out.size; have h3 := GSB.out; have h4 := HQB.out.b.size; omega
 have HTW : Aside0 (Kd.F kPt wB (fun q => q = gB ∨ ((okA q ∨ w1.heap.size ≤ q) ∧ q ≠ gC)) (some ⟨gB, 0, none⟩) 2 [pq, pb]) := ⟨f_two BKB.out rfl (Kd.FK_below HEq.out HLW.out) (Kd.FK_below HEb.out (join_below HS2.out.1.b HLW.out)) (fun q h => h) (fun q h => ⟨h.1.1, by have h1 := h.2; have h2 := HGC.out; omega⟩)⟩
 have HX : Aside0 (SeqAt wS ((((wB.setCell ⟨gC, 0, none⟩ (.int .i64 5)).setCell ⟨gC, 1, none⟩ (.slice none 0 0)).setCell ⟨gC, 2, none⟩ (.slice none 0 0)).setCell ⟨gC, 3, none⟩ (.slice (some ⟨gB, 0, none⟩) 2 2)) gC (fun q => (okA q ∨ w1.heap.size ≤ q) ∧ q ≠ gC) ⟨5, [], [], [pq, pb]⟩) := ⟨⟨⟨[.int .i64 5, .slice none 0 0, .slice none 0 0, .slice (some ⟨gB, 0, none⟩) 2 2], blk_put4 _ _ _ _ _ _ _ _ (blk_below HBq.out HLW.out), fk_put4 _ _ _ _ _ _ _ _ (Kd.FK_mono (k37_mkF wB _ ⟨5, [], [], [pq, pb]⟩ (show 0 ≤ 0 from Nat.le_refl _) (Kd.F_nil _ _ _) (show 0 ≤ 0 from Nat.le_refl _) (Kd.F_nil _ _ _) (show 2 ≤ 2 from Nat.le_refl _) HTW.out) (fun q hq => by rcases hq with hq | hq; (· exact ⟨Or.inr (by omega), by omega⟩); (· exact hq))) (fun q hq => hq.2)⟩, below_put4 (Nat.le_of_eq HGC.out) _ _ _ _ _ _ _ _ (join_below HS2.out.1.b HLW.out)⟩⟩
 clear hgB
 obtain rfl := HPB.out
 refine wpAnyH_done (by as_aux_lemma => kernel_rfl) ?_ _
 exact HQf.out _ _ _ _ _ _ _ _ HX.out
end Go.Proofs.YthdfmbmbjpmlaaaDoor.Rn
end
section
set_option linter.unusedVariables false
set_option linter.unusedSimpArgs false
namespace Go.Proofs.YthdfmbmbjpmlaaaDoor.Rn
open Go Go.RowKit Go.Proofs.YthdfmbmbjpmlaaaDoorW.PrintWords Go.Proofs.YthdfmbmbjpmlaaaDoorW.PrintLast Go.Proofs.YthdfmbmbjpmlaaaDoorW.PrintMore
set_option maxHeartbeats 200000000 in
set_option maxRecDepth 100000 in
theorem pattern_gen (ins calls rets : List ByteArray) (A1 A2 A3 : Option Addr) (c1 c2 c3 : Nat) (ks : List Int) (A : Option Addr) (c : Nat) (okA : Nat → Prop) (W : World) (hA : ∀ q, okA q → q < W.heap.size) (h1 : TxtIn W okA A1 ins c1) (h2 : TxtIn W okA A2 calls c2) (h3 : TxtIn W okA A3 rets c3) (hC : Kd.C (Kd.int .i64) W A ks.length ks) :
 Calls Tryd.prog 17 #[.slice A ks.length c, .slice A1 ins.length c1, .slice A2 calls.length c2, .slice A3 rets.length c3] W (PatPost okA (madeP ins calls rets ks) W) := by
 have HA := Aside0.mk hA
 have HT1 := Aside0.mk h1
 have HT2 := Aside0.mk h2
 have HT3 := Aside0.mk h3
 have HC := Aside0.mk hC
 have hl : ks.length ≤ 9223372036854775807 := hC.2.1
 clear hA h1 h2 h3 hC
 obtain ⟨res, hres⟩ : ∃ r, patRun ins calls rets [] (ks.take 8) = r := ⟨_, rfl⟩
 have HR : Aside0 (patRun ins calls rets [] ((ks.take 8).drop 0) = res) := ⟨hres⟩
 clear hres
 go_enter Tryd.func17, Tryd.ntmps17
 go_wp2
 obtain ⟨w1, hw1⟩ : ∃ x, W.alloc (.cells #[.int .i64 0, .slice none 0 0, .slice none 0 0, .slice none 0 0] 37) = x := ⟨_, rfl⟩
 have HB0 : Aside0 (Below W.heap.size W w1) := ⟨hw1 ▸ below1 _ _⟩
 have HK8 : Aside0 (w1.heap[W.heap.size]? = some (.cells #[.int .i64 0, .slice none 0 0, .slice none 0 0, .slice none 0 0] 37 (0, 0))) := ⟨by rw [← hw1]; exact blk_new _ _⟩
 rw [hw1]
 clear hw1
 go_loopw [9, 10] (fun v i w => ∃ (m : Nat) (B : Option Addr) (d : Nat) (xs : List Pt), v = .slice B xs.length d ∧ i = .int .i64 (m : Int) ∧ m ≤ (ks.take 8).length ∧ xs.length ≤ m ∧ Aside0 (PatAt w1 w okA (.slice B xs.length d) xs ∧ patRun ins calls rets xs ((ks.take 8).drop m) = res)) (fun _ i _ => (ks.take 8).length - (intOf i).toNat)
 case atStart => exact ⟨0, none, 0, [], rfl, rfl, Nat.zero_le _, Nat.le_refl _, ⟨⟨Kd.N_nil _ _ _ _ _, Below.refl _ _⟩, HR.out⟩⟩
 case round =>
  obtain ⟨m, B, d, xs, rfl, rfl, hm, hx, HS⟩ := hrel
  by_cases hlt : m < (ks.take 8).length
  · have hlt2 : m < ks.length ∧ m < 8 := by rw [List.length_take] at hlt; omega
    have e1 : decide (m < ks.length) = true := decide_eq_true hlt2.1
    have e2 : decide ((m : Int) < 8) = true := decide_eq_true (by omega)
    obtain ⟨k, hk⟩ : ∃ k, (ks.take 8)[m]? = some k := ⟨_, List.getElem?_eq_getElem hlt⟩
    have hk' : ks[m]? = some k := by
     rw [List.getElem?_take, if_pos hlt2.2] at hk
     exact hk
    obtain ⟨g, o, rfl, _, hcell⟩ := row_cells HC.out (by omega) (by decide)
    obtain ⟨cs, hcl, hK, hcc⟩ := hcell m k hk'
    have hck : cs = [.int .i64 k] := hK
    subst hck
    have y0 := cell_after (join_below HB0.out HS.out.1.b) (hcc 0 (.int .i64 k) rfl)
    rw [Nat.add_zero, show m * (Kd.int .i64).sz = m from Nat.mul_one m] at y0
    have HST := Aside0.mk (patRun_step (ins := ins) (calls := calls) (rets := rets) (xs := xs) hk)
    have HM := Aside0.mk (And.intro hlt (And.intro hm hx))
    clear hcell hcc hcl hK hk hk' hlt
    go_upto_block 1 with (fail)
    go_cut [9] (fun v9 w' => ∃ (B' : Option Addr) (d' : Nat) (xs' : List Pt), v9 = .slice B' xs'.length d' ∧ Aside0 (xs'.length ≤ m + 1 ∧ PatAt w1 w' okA (.slice B' xs'.length d') xs' ∧ patRun ins calls rets xs' ((ks.take 8).drop (m + 1)) = res))
    case rest =>
     obtain ⟨B', d', xs', rfl, HC2⟩ := hcut
     have HM2 := HM.out
     clear e1 e2 y0
     go_wp2
     go_roundw
     case rel => exact ⟨m + 1, B', d', xs', rfl, by go_num, by omega, HC2.out.1, ⟨HC2.out.2⟩⟩
     case measure => simp [intOf]; omega
    go_upto_region 5 with (fail)
    go_quiet (fail)
    obtain ⟨w2, hw2⟩ : ∃ x, wr.drewN nq = x := ⟨_, rfl⟩
    have HS2 : Aside0 (PatAt w1 w2 okA (.slice B xs.length d) xs) := ⟨HS.out.1.later (hw2 ▸ pw_below_drewN (Below.refl _ _) _)⟩
    rw [hw2]
    clear hw2 y0 e1 e2
    obtain ⟨v, hv⟩ : ∃ v : Nat, IntKind.u64.wrap k % 11 = (v : Int) := ⟨(IntKind.u64.wrap k % 11).toNat, by omega⟩
    have hv11 : v < 11 := by omega
    have e3 : wrap64 ((IntKind.u64.wrap k).tmod 11) = (v : Int) := by
     rw [Int.tmod_eq_emod_of_nonneg (wrap_u0 k).1, hv]
     unfold wrap64
     omega
    have HV := Aside0.mk hv
    clear hv
    go_upto_region 7 with (fail)
    rw [e3]
    clear e3
    go_cut [36] (fun vv w' => vv = .bool (decide (v < 3 ∨ (xs.length = 0 ∧ 5 < v))) ∧ w' = w2)
    case first =>
     have hcase : v < 3 ∨ (¬ v < 3 ∧ xs.length = 0 ∧ 5 < v) ∨ (¬ v < 3 ∧ xs.length = 0 ∧ ¬ 5 < v) ∨ (¬ v < 3 ∧ ¬ xs.length = 0) := by omega
     rcases hcase with hc | ⟨hc, hx0, hc5⟩ | ⟨hc, hx0, hc5⟩ | ⟨hc, hx0⟩
     · skip
       have t3 : decide ((v : Int) < 3) = true := decide_eq_true (by omega)
       have HRES : Aside0 (decide (v < 3 ∨ (xs.length = 0 ∧ 5 < v)) = true) := ⟨decide_eq_true (by omega)⟩
       clear hc
       go_wp2
       go_meet
       case rel => exact ⟨congrArg Value.bool HRES.out.symm, rfl⟩
     · skip
       have t3 : decide ((v : Int) < 3) = false := decide_eq_false (by omega)
       have t5 : decide (5 < (v : Int)) = true := decide_eq_true (by omega)
       have l0 : ((xs.length : Int) == 0) = true := beq_iff_eq.2 (by omega)
       have HRES : Aside0 (decide (v < 3 ∨ (xs.length = 0 ∧ 5 < v)) = true) := ⟨decide_eq_true (by omega)⟩
       clear hc hx0 hc5
       go_wp2
       go_meet
       case rel => exact ⟨congrArg Value.bool HRES.out.symm, rfl⟩
     · skip
       have t3 : decide ((v : Int) < 3) = false := decide_eq_false (by omega)
       have t5 : decide (5 < (v : Int)) = false := decide_eq_false (by omega)
       have l0 : ((xs.length : Int) == 0) = true := beq_iff_eq.2 (by omega)
       have HRES : Aside0 (decide (v < 3 ∨ (xs.length = 0 ∧ 5 < v)) = false) := ⟨decide_eq_false (by omega)⟩
       clear hc hx0 hc5
       go_wp2
       go_meet
       case rel => exact ⟨congrArg Value.bool HRES.out.symm, rfl⟩
     · skip
       have t3 : decide ((v : Int) < 3) = false := decide_eq_false (by omega)
       have l0 : ((xs.length : Int) == 0) = false := beq_eq_false_iff_ne.2 (by omega)
       have HRES : Aside0 (decide (v < 3 ∨ (xs.length = 0 ∧ 5 < v)) = false) := ⟨decide_eq_false (by omega)⟩
       clear hc hx0
       go_wp2
       go_meet
       case rel => exact ⟨congrArg Value.bool HRES.out.symm, rfl⟩
    obtain ⟨rfl, hcw⟩ := hcut
    rw [hcw]
    clear hcw
    by_cases hT : v < 3 ∨ (xs.length = 0 ∧ 5 < v)
    · skip
      rw [decide_eq_true hT]
      have HP := Aside0.mk (patNext_tok ins calls rets xs k v HV.out hT)
      clear hT
      go_upto_region 8 with (fail)
      refine pat_reg8 (k := k) (ins := ins) (calls := calls) (rets := rets) (A1 := A1) (A2 := A2) (A3 := A3) (c1 := c1) (c2 := c2) (c3 := c3) (d := d) (okA := okA) HA.out HB0.out HT1.out HS2.out (by have := HM.out; omega) (fun _ a a' _ hd h => by obtain ⟨_, _⟩ := a; obtain ⟨_, _⟩ := a'; cases hd; exact h) ?_
      intro v47 v48 v49 v50 v51 v52 v53 v54 A9 n9 c9 w9 h9 hx9
      have HX := Aside0.mk hx9
      have HN9 := Aside0.mk h9
      clear hx9 h9
      go_wp2
      go_meet
      case rel => exact ⟨_, _, xs ++ [⟨2, pickS ins (wrap64 (k.tdiv 11)), [], []⟩], by rw [HN9.out], ⟨by have := HM.out; simp; omega, HX.out, by rw [← HP.out, ← HST.out]; exact HS.out.2⟩⟩
    · skip
      rw [decide_eq_false hT]
      have hv3 : 3 ≤ v := by omega
      have hx5 : 5 < v → 0 < xs.length := by omega
      clear hT
      go_upto_if 36 with (fail)
      refine pat_c7 (k := k) (ins := ins) (calls := calls) (rets := rets) (A1 := A1) (A2 := A2) (A3 := A3) (c1 := c1) (c2 := c2) (c3 := c3) (d := d) (okA := okA) HA.out HB0.out HT1.out HT2.out HT3.out HS2.out HV.out hv3 hv11 hx5 (by have := HM.out; omega) (fun _ a a' _ hd h => by obtain ⟨_, _⟩ := a; obtain ⟨_, _⟩ := a'; cases hd; exact h) ?_
      intro v55 v56 v57 v58 v59 v60 v61 v62 v63 v64 v65 v66 v67 v68 v69 v70 v71 v72 v73 v74 v75 v76 v77 v78 v79 v80 v81 v82 v83 v84 v85 v86 v87 v88 v89 v90 v91 v92 v93 v94 v95 v96 v97 v98 v99 v100 v101 v102 v103 v104 v105 v106 v107 v108 v109 v110 v111 v112 v113 v114 v115 v116 v117 v118 v119 v120 v121 v122 v123 v124 v125 v126 v127 v128 v129 v130 v131 v132 v133 v134 v135 v136 v137 v138 v139 v140 v141 v142 v143 v144 v145 v146 v147 v148 v149 v150 v151 v152 v153 v154 v155 v156 v157 v158 v159 v160 v161 v162 v163 v164 v165 v166 v167 v168 v169 v170 v171 v172 v173 v174 v175 v176 v177 v178 v179 v180 v181 v182 v183 v184 v185 v186 v187 v188 v189 v190 v191 v192 v193 A9 n9 c9 xs9 w9 h1 h2 h3 h4
      have HX := Aside0.mk h4
      have HP := Aside0.mk h2
      have HN9 := Aside0.mk (And.intro h1 h3)
      clear h1 h2 h3 h4
      go_wp2
      go_meet
      case rel => exact ⟨_, _, xs9, by rw [HN9.out.1], ⟨by have := HM.out; have := HN9.out.2; omega, HN9.out.1 ▸ HX.out, by rw [← HP.out, ← HST.out]; exact HS.out.2⟩⟩
  · skip
    have hme : m = (ks.take 8).length := by omega
    have HRS : Aside0 (xs = res) := ⟨by have h := HS.out.2; rw [hme, List.drop_length] at h; exact h⟩
    have hx8 : xs.length ≤ 8 := by rw [List.length_take] at hme; omega
    rw [List.length_take] at hme
    have h8 : ks.length ≤ m ∨ (m < ks.length ∧ 8 ≤ m) := by omega
    clear hme hlt hm hx
    obtain ⟨wS, hwS⟩ : ∃ x, wr = x := ⟨_, rfl⟩
    rw [hwS]
    have HQ : Aside0 (PatAt w1 wS okA (.slice B xs.length d) xs) := ⟨hwS ▸ HS.out.1⟩
    clear hwS HS
    have HZ8 := Aside0.mk (blk_below HK8.out HQ.out.b)
    go_upto_region 3 with (fail)
    go_cut [23] (fun vv w' => vv = .bool false ∧ w' = wS)
    case first =>
     rcases h8 with h8 | h8
     · skip
       have e1 : decide (m < ks.length) = false := decide_eq_false (by omega)
       go_wp2
       go_meet
       case rel => exact ⟨rfl, rfl⟩
     · skip
       have e1 : decide (m < ks.length) = true := decide_eq_true (by omega)
       have e2 : decide ((m : Int) < 8) = false := decide_eq_false (by omega)
       go_wp2
       go_meet
       case rel => exact ⟨rfl, rfl⟩
    obtain ⟨rfl, hcw⟩ := hcut
    rw [hcw]
    clear hcw h8
    go_upto_region 23 with (fail)
    rcases Nat.eq_zero_or_pos xs.length with hx0 | hx0
    · skip
      have l0 : ((xs.length : Int) == 0) = true := beq_iff_eq.2 (by omega)
      have HX0 := Aside0.mk hx0
      clear hx0
      have y0 : World.cell? wS ⟨W.heap.size, 0, none⟩ = some (.int .i64 0) := (blk_cell HZ8.out 0).trans rfl
      have z0 := blk_frozen HZ8.out 0
      have y1 : World.cell? wS ⟨W.heap.size, 1, none⟩ = some (.slice none 0 0) := (blk_cell HZ8.out 1).trans rfl
      have z1 := blk_frozen HZ8.out 1
      have y2 : World.cell? wS ⟨W.heap.size, 2, none⟩ = some (.slice none 0 0) := (blk_cell HZ8.out 2).trans rfl
      have z2 := blk_frozen HZ8.out 2
      have y3 : World.cell? wS ⟨W.heap.size, 3, none⟩ = some (.slice none 0 0) := (blk_cell HZ8.out 3).trans rfl
      have z3 := blk_frozen HZ8.out 3
      go_wp2
      refine bodyPost_ret (results_cell_row rfl _ _ W.heap.size 37 #[.int .i64 4, .slice none 0 0, .slice none 0 0, .slice none 0 0] (0, 0) _ rfl (blk_put4 _ _ _ _ _ _ _ _ HZ8.out) Tryd.underlying37 rfl (by as_aux_lemma => kernel_rfl)) rfl ?_
      rw [madeP_nil (HR.out.trans HRS.out.symm) HX0.out]
      exact ⟨_, rfl, k37_mkF _ _ ⟨4, [], [], []⟩ (show 0 ≤ 0 from Nat.le_refl _) (Kd.F_nil _ _ _) (show 0 ≤ 0 from Nat.le_refl _) (Kd.F_nil _ _ _) (show 0 ≤ 0 from Nat.le_refl _) (Kd.F_nil _ _ _), below_put4 (Nat.le_refl _) _ _ _ _ _ _ _ _ (join_below HB0.out HQ.out.b)⟩
    · skip
      have l0 : ((xs.length : Int) == 0) = false := beq_eq_false_iff_ne.2 (by omega)
      obtain ⟨g2, d2, hf, _, hg2, _⟩ := Kd.N_form HQ.out.n (by omega)
      injection hf with hf1 hf2 hf3
      subst hf1 hf3
      obtain ⟨csa, hcla, hFKa, hcca, _⟩ := Kd.N_elem HQ.out.n ptZ ((0 : Nat) : Int) (by omega) (by omega)
      rw [Int.toNat_natCast] at hFKa hcca
      obtain ⟨pa, hpa⟩ : ∃ p, xs.getD 0 ptZ = p := ⟨_, rfl⟩
      rw [hpa] at hFKa
      obtain ⟨P1a, r1a, P2a, r2a, P3a, r3a, rfl, _, _, _, _, _, _⟩ := k37_open (Kd.FK_now hFKa)
      have HEa := Aside0.mk hFKa
      have HCa := Aside0.mk hcca
      have HPA := Aside0.mk hpa
      have HX0 := Aside0.mk hx0
      have hxi : (0 : Int) < (xs.length : Int) := by omega
      have y0 : wS.cell? ⟨g2, 0, none⟩ = some (.int .i64 pa.f0) := HCa.out 0 _ rfl
      have y1 : wS.cell? ⟨g2, 1, none⟩ = some (.slice P1a pa.f1.length r1a) := HCa.out 1 _ rfl
      have y2 : wS.cell? ⟨g2, 2, none⟩ = some (.slice P2a pa.f2.length r2a) := HCa.out 2 _ rfl
      have y3 : wS.cell? ⟨g2, 3, none⟩ = some (.slice P3a pa.f3.length r3a) := HCa.out 3 _ rfl
      clear hcca hcla hFKa hpa hg2 hx0
      go_upto_region 26 with (fail)
      clear y0 y1 y2 y3 hxi l0
      have HC0 : Aside0 (SeqAt wS (wS.alloc (.cells #[.int .i64 pa.f0, .slice P1a pa.f1.length r1a, .slice P2a pa.f2.length r2a, .slice P3a pa.f3.length r3a] 37)) wS.heap.size (fun q => (okA q ∨ w1.heap.size ≤ q) ∧ q ≠ wS.heap.size) pa) := ⟨⟨⟨_, blk_new _ _, Kd.FK_mono (Kd.FK_below (Kd.FK_bound HEa.out) (below1 _ _)) (fun q hq => ⟨hq.1.1, by have := hq.2; omega⟩)⟩, below1 _ _⟩⟩
      obtain ⟨wC, hwC⟩ : ∃ x, wS.alloc (.cells #[.int .i64 pa.f0, .slice P1a pa.f1.length r1a, .slice P2a pa.f2.length r2a, .slice P3a pa.f3.length r3a] 37) = x := ⟨_, rfl⟩
      rw [hwC] at HC0 ⊢
      clear hwC HEa HCa
      obtain ⟨gC, hgC⟩ : ∃ x, wS.heap.size = x := ⟨_, rfl⟩
      rw [hgC] at HC0 ⊢
      have HGC := Aside0.mk hgC
      clear hgC
      go_wp2
      go_loopw [15] (fun i w => ∃ (n : Nat) (q : Pt), i = .int .i64 ((n : Int) + 1) ∧ n + 1 ≤ xs.length ∧ Aside0 (SeqAt wS w gC (fun q => (okA q ∨ w1.heap.size ≤ q) ∧ q ≠ gC) q ∧ patSeq q (xs.drop (n + 1)) = patSeq pa (xs.drop 1))) (fun i _ => xs.length - (intOf i).toNat)
      case atStart => exact ⟨0, pa, rfl, HX0.out, ⟨⟨HC0.out, rfl⟩⟩⟩
      case round =>
       obtain ⟨n, pq, rfl, hn, HS2⟩ := hrel
       obtain ⟨w2, hw2⟩ : ∃ x, wr = x := ⟨_, rfl⟩
       rw [hw2] at HS2 ⊢
       clear hw2
       obtain ⟨csq, hbq, hFKq⟩ := HS2.out.1.h
       obtain ⟨P1q, r1q, P2q, r2q, P3q, r3q, rfl, _, _, _, _, _, _⟩ := k37_open (Kd.FK_now hFKq)
       have HEq := Aside0.mk hFKq
       have HBq := Aside0.mk hbq
       clear hbq hFKq
       by_cases hlt : n + 1 < xs.length
       · skip
         have e1 : decide ((n : Int) + 1 < (xs.length : Int)) = true := decide_eq_true (by omega)
         have HPS := Aside0.mk ((patSeq_step pq hlt).symm.trans HS2.out.2)
         have HLT := Aside0.mk (And.intro hlt hx8)
         clear hlt hn hx8
         go_upto_region 29 with (fail)
         clear e1
         refine pat_reg29 (k := 0) (ins := ins) (calls := calls) (rets := rets) (A1 := A1) (A2 := A2) (A3 := A3) (c1 := c1) (c2 := c2) (c3 := c3) (d := d) (okA := okA) HA.out HB0.out HQ.out HS2.out.1 HGC.out HLT.out.1 HLT.out.2 (fun _ a a' _ hd h => by obtain ⟨_, _⟩ := a; obtain ⟨_, _⟩ := a'; cases hd; exact h) ?_
         intro v207 v208 v209 v210 v211 v212 v213 w9 hx9
         have HX := Aside0.mk hx9
         clear hx9
         have hn8 : (n : Int) ≤ 8 := by have := HLT.out; omega
         go_wp2
         go_roundw
         case rel => exact ⟨n + 1, ⟨5, [], [], [pq, xs.getD (n + 1) ptZ]⟩, by go_num, by have := HLT.out; omega, ⟨⟨HX.out, HPS.out⟩⟩⟩
         case measure => have := HLT.out; simp [intOf]; omega
       · skip
         have e1 : decide ((n : Int) + 1 < (xs.length : Int)) = false := decide_eq_false (by omega)
         have HPE : Aside0 (patSeq pa (xs.drop 1) = pq) := ⟨HS2.out.2.symm.trans (patSeq_end pq (by omega))⟩
         have HZW := Aside0.mk (blk_below HZ8.out HS2.out.1.b)
         clear hlt hn
         have y0 : World.cell? w2 ⟨gC, 0, none⟩ = some (.int .i64 pq.f0) := (blk_cell HBq.out 0).trans rfl
         have x0 : World.cell? w2 ⟨W.heap.size, 0, none⟩ = some (.int .i64 0) := (blk_cell HZW.out 0).trans rfl
         have z0 := blk_frozen HZW.out 0
         have y1 : World.cell? w2 ⟨gC, 1, none⟩ = some (.slice P1q pq.f1.length r1q) := (blk_cell HBq.out 1).trans rfl
         have x1 : World.cell? w2 ⟨W.heap.size, 1, none⟩ = some (.slice none 0 0) := (blk_cell HZW.out 1).trans rfl
         have z1 := blk_frozen HZW.out 1
         have y2 : World.cell? w2 ⟨gC, 2, none⟩ = some (.slice P2q pq.f2.length r2q) := (blk_cell HBq.out 2).trans rfl
         have x2 : World.cell? w2 ⟨W.heap.size, 2, none⟩ = some (.slice none 0 0) := (blk_cell HZW.out 2).trans rfl
         have z2 := blk_frozen HZW.out 2
         have y3 : World.cell? w2 ⟨gC, 3, none⟩ = some (.slice P3q pq.f3.length r3q) := (blk_cell HBq.out 3).trans rfl
         have x3 : World.cell? w2 ⟨W.heap.size, 3, none⟩ = some (.slice none 0 0) := (blk_cell HZW.out 3).trans rfl
         have z3 := blk_frozen HZW.out 3
         go_wp2
         refine bodyPost_ret (results_cell_row rfl _ _ W.heap.size 37 #[.int .i64 pq.f0, .slice P1q pq.f1.length r1q, .slice P2q pq.f2.length r2q, .slice P3q pq.f3.length r3q] (0, 0) _ rfl (blk_put4 _ _ _ _ _ _ _ _ HZW.out) Tryd.underlying37 rfl (by as_aux_lemma => kernel_rfl)) rfl ?_
         rw [madeP_cons (HR.out.trans HRS.out.symm) HX0.out, HPA.out, HPE.out]
         exact ⟨_, rfl, Kd.FK_mono (fk_put4 _ _ _ _ _ _ _ _ HEq.out (fun q hq => by have h1 := blk_lt HK8.out; have h2 := HA.out q; rcases hq.1 with h | h; (· have := h2 h; omega); (· omega))) (fun q hq => by have h1 := HB0.out.size; rcases hq.1 with h | h; (· exact Or.inl h); (· exact Or.inr (by omega))), below_put4 (Nat.le_refl _) _ _ _ _ _ _ _ _ (join_below (join_below HB0.out HQ.out.b) HS2.out.1.b)⟩
end Go.Proofs.YthdfmbmbjpmlaaaDoor.Rn
end
section
set_option linter.unusedVariables false
set_option linter.unusedSimpArgs false
namespace Go.Proofs.YthdfmbmbjpmlaaaDoor.Rn
open Go Go.RowKit Go.Proofs.YthdfmbmbjpmlaaaDoorW.PrintWords Go.Proofs.YthdfmbmbjpmlaaaDoorW.PrintLast Go.Proofs.YthdfmbmbjpmlaaaDoorW.PrintMore
set_option maxHeartbeats 200000000 in
set_option maxRecDepth 100000 in
theorem make_gen (ls : List (List Int)) (A : Option Addr) (c : Nat) (okA : Nat → Prop) (W : World) (hA : ∀ q, okA q → q < W.heap.size) (hL : Kd.F (Kd.slice 3 (Kd.int .i64)) W okA A ls.length ls) (hsm : ∀ l, l ∈ ls → l.length ≤ 1048576) :
 Calls Tryd.prog 6 #[.slice A ls.length c] W (fun e W' => ∃ v1 v2, e = .returned (.agg #[v1, v2]) ∧ Kd.N kTok 50 W' W.heap.size (fun k => W.heap.size ≤ k) v1 (madeTs ls.length) ∧ Kd.N kRul 32 W' W.heap.size (fun k => W.heap.size ≤ k) v2 (madeRs ls) ∧ Below W.heap.size W W') := by
 have HA := Aside0.mk hA
 have HL := Aside0.mk hL
 have HSM := Aside0.mk hsm
 have hl : ls.length ≤ 9223372036854775807 := (Kd.F_now hL).2.1
 clear hA hL hsm
 go_enter Tryd.func6, Tryd.ntmps6
 go_wp2_with fail
 refine (one_any 99 _).mono ?_
 rintro e w1 ⟨a1, c1, A2, c2, X1, rfl, hl1, hC1, hX1, hC2, n1, n2, hb⟩
 have N1 : Aside0 (W.heap.size < a1) := ⟨by simp at n1; omega⟩
 clear n1 n2
 have HB1 := Aside0.mk (join_below (below1 W _) hb)
 have HBLK := Aside0.mk ((hb.block W.heap.size (by simp)).trans (blk_new W _))
 have H1 := Aside0.mk (And.intro hl1 (And.intro hC1 (And.intro hX1 hC2)))
 clear hl1 hC1 hC2 hX1 hb
 go_wp2_with fail
 refine (one_any 100 _).mono ?_
 rintro e w2 ⟨b1, d1, B2, d2, Y1, rfl, hl1, hC1, hX1, hC2, n1, n2, hb⟩
 have N2 : Aside0 (W.heap.size < b1) := ⟨by have := blk_lt HBLK.out; omega⟩
 clear n1 n2
 have HB2 := Aside0.mk (join_below HB1.out hb)
 have HB12 := Aside0.mk hb
 have H2 := Aside0.mk (And.intro hl1 (And.intro hC1 (And.intro hX1 hC2)))
 clear hl1 hC1 hC2 hX1 hb
 go_wp2
 obtain ⟨w3, hw3⟩ : ∃ x, (w2.alloc (Obj.cells #[.int .i64 2, .slice (some ⟨a1, 0, none⟩) 1 c1, .slice A2 0 c2] 48)).alloc (Obj.cells #[.int .i64 2, .slice (some ⟨b1, 0, none⟩) 1 d1, .slice B2 0 d2] 48) = x := ⟨_, rfl⟩
 have hnb : w3.heap[w2.heap.size + 1]? = some (.cells #[.int .i64 2, .slice (some ⟨b1, 0, none⟩) 1 d1, .slice B2 0 d2] 48 (0, 0)) := by
  rw [← hw3]
  exact second w2 _ _ _
 have hna : w3.heap[w2.heap.size]? = some (.cells #[.int .i64 2, .slice (some ⟨a1, 0, none⟩) 1 c1, .slice A2 0 c2] 48 (0, 0)) := by
  rw [← hw3]
  exact blk_alloc (blk_new _ _) _
 have HB3 : Aside0 (Below w2.heap.size w2 w3) := ⟨hw3 ▸ below_alloc (below1 _ _) _⟩
 have q0 : ∀ p : Later w3, p.wx.cell? ⟨w2.heap.size, 0, none⟩ = some (.int .i64 2) := fun p => cell_after p.below ((blk_cell hna 0).trans rfl)
 have q1 : ∀ p : Later w3, p.wx.cell? ⟨w2.heap.size, 1, none⟩ = some (.slice (some ⟨a1, 0, none⟩) 1 c1) := fun p => cell_after p.below ((blk_cell hna 1).trans rfl)
 have q2 : ∀ p : Later w3, p.wx.cell? ⟨w2.heap.size, 2, none⟩ = some (.slice A2 0 c2) := fun p => cell_after p.below ((blk_cell hna 2).trans rfl)
 have r0 : ∀ p : Later w3, p.wx.cell? ⟨w2.heap.size + 1, 0, none⟩ = some (.int .i64 2) := fun p => cell_after p.below ((blk_cell hnb 0).trans rfl)
 have r1 : ∀ p : Later w3, p.wx.cell? ⟨w2.heap.size + 1, 1, none⟩ = some (.slice (some ⟨b1, 0, none⟩) 1 d1) := fun p => cell_after p.below ((blk_cell hnb 1).trans rfl)
 have r2 : ∀ p : Later w3, p.wx.cell? ⟨w2.heap.size + 1, 2, none⟩ = some (.slice B2 0 d2) := fun p => cell_after p.below ((blk_cell hnb 2).trans rfl)
 have HW3 : Aside0 (W.heap.size < w3.heap.size) := ⟨blk_lt (blk_below (blk_below HBLK.out HB12.out) HB3.out)⟩
 rw [hw3]
 clear hw3 hna hnb
 have HQR := Aside0.mk (And.intro q0 (And.intro q1 (And.intro q2 (And.intro r0 (And.intro r1 r2)))))
 go_cut [5] (fun v w' => ∃ gG, v = .pointer (some ⟨gG, 0, none⟩) ∧ Aside0 (MadeG W w3 gG w'))
 case first =>
  have hund : undef = Value.tuple #[] := rfl
  obtain ⟨wd, hwd⟩ : ∃ x, w3.drew = x := ⟨_, rfl⟩
  have HLAT : Aside0 (Below w3.heap.size w3 wd) := ⟨hwd ▸ below_drew1 (Below.refl _ _)⟩
  refine wp_region_held (S := fun w' => ∃ p : Later w3, w' = p.wx) (by as_aux_lemma => kernel_rfl) ?_
  change wpAnyH _ _ _ _ _ _ _ _ (World.drew _)
  rw [hwd]
  clear hwd
  ((refine takeQ (i := 2) (by rfl) (by as_aux_lemma => kernel_rfl) (by as_aux_lemma => kernel_rfl) (by as_aux_lemma => kernel_rfl) ?_ ?_ ?_); (focus exact fun _ _ _ _ h => h); (focus exact ⟨⟨_, HLAT.out⟩, rfl⟩); intro K hK; go_simp; (with_reducible refine hK _ ?_); clear hK K)
  ((refine takeQ (i := 3) (by rfl) (by as_aux_lemma => kernel_rfl) (by as_aux_lemma => kernel_rfl) (by as_aux_lemma => kernel_rfl) ?_ ?_ ?_); (focus exact fun _ _ _ _ h => h); (focus exact ⟨⟨_, HLAT.out⟩, rfl⟩); intro K hK; go_simp; (with_reducible refine hK _ ?_); clear hK K)
  ((refine takeQ (i := 7) (by rfl) (by as_aux_lemma => kernel_rfl) (by as_aux_lemma => kernel_rfl) (by as_aux_lemma => kernel_rfl) ?_ ?_ ?_); (focus exact fun _ _ _ _ h => h); (focus exact ⟨⟨_, HLAT.out⟩, rfl⟩); intro K hK; go_simp; (with_reducible refine hK _ ?_); clear hK K)
  ((refine takeQ (i := 8) (by rfl) (by as_aux_lemma => kernel_rfl) (by as_aux_lemma => kernel_rfl) (by as_aux_lemma => kernel_rfl) ?_ ?_ ?_); (focus exact fun _ _ _ _ h => h); (focus exact ⟨⟨_, HLAT.out⟩, rfl⟩); intro K hK; go_simp; (with_reducible refine hK _ ?_); clear hK K)
  ((refine takeQ (i := 9) (by rfl) (by as_aux_lemma => kernel_rfl) (by as_aux_lemma => kernel_rfl) (by as_aux_lemma => kernel_rfl) ?_ ?_ ?_); (focus exact fun _ _ _ _ h => h); (focus exact ⟨⟨_, HLAT.out⟩, rfl⟩); intro K hK; go_simp; (with_reducible refine hK _ ?_); clear hK K)
  ((refine takeQ (i := 10) (by rfl) (by as_aux_lemma => kernel_rfl) (by as_aux_lemma => kernel_rfl) (by as_aux_lemma => kernel_rfl) ?_ ?_ ?_); (focus exact fun _ _ _ _ h => h); (focus exact ⟨⟨_, HLAT.out⟩, rfl⟩); intro K hK; go_simp; (with_reducible refine hK _ ?_); clear hK K)
  clear q0 q1 q2 r0 r1 r2
  refine hall3 (i := 0) (j := 4) (k := 13) (by as_aux_lemma => kernel_rfl) (by rfl) (by rfl) (by rfl) (fun K hK => ?_) (fun K hK => ?_) (fun K hK => ?_)
  · go_simp
    refine (one_any 97 _).mono ?_
    rintro e v1 ⟨a0, c0, E0, e0, X0, rfl, f1, f2, fX, f3, f4, f5, hb⟩
    have G0 := Aside0.mk f5
    have GW : Aside0 (W.heap.size < a0) := ⟨by have h1 := HW3.out; have h2 := HLAT.out.size; omega⟩
    have ST := Aside0.mk hb
    have HV1 : Aside0 (Below w3.heap.size w3 v1) := ⟨join_below HLAT.out hb⟩
    have F0 := Aside0.mk (And.intro f2 (And.intro fX (And.intro f3 f1)))
    clear f1 f2 f3 f4 f5 fX hb
    refine hK _ _ ⟨⟨_, HV1.out⟩, rfl⟩ ?_
    clear hK K ST
    ((refine takeQ (i := 1) (by rfl) (by as_aux_lemma => kernel_rfl) (by as_aux_lemma => kernel_rfl) (by as_aux_lemma => kernel_rfl) ?_ ?_ ?_); (focus exact fun _ _ _ _ h => h); (focus exact ⟨⟨_, HV1.out⟩, rfl⟩); intro K hK; go_simp; (with_reducible refine hK _ ?_); clear hK K)
    refine hall2 (i := 4) (j := 13) (by as_aux_lemma => kernel_rfl) (by rfl) (by rfl) (fun K hK => ?_) (fun K hK => ?_)
    · go_simp
      obtain ⟨v2, hv⟩ : ∃ x, v1.alloc (Obj.cells #[.int .i32 10, .int .i32 10, .int .i32 98, .int .i32 98] 56) = x := ⟨_, rfl⟩
      rw [hv]
      obtain ⟨g4, hg⟩ : ∃ x, v1.heap.size = x := ⟨_, rfl⟩
      rw [hg]
      have F4 : Aside0 (v2.heap[g4]? = some (.cells #[.int .i32 10, .int .i32 10, .int .i32 98, .int .i32 98] 56 (0, 0))) := ⟨by rw [← hv, ← hg]; exact blk_new _ _⟩
      have GW4 : Aside0 (W.heap.size < g4) := ⟨by have h1 := HW3.out; have h2 := HV1.out.size; omega⟩
      have ST : Aside0 (Below v1.heap.size v1 v2) := ⟨hv ▸ below1 _ _⟩
      have HV2 : Aside0 (Below w3.heap.size w3 v2) := ⟨join_below HV1.out ST.out⟩
      clear hv hg
      have G0 := Aside0.mk (Nat.lt_of_lt_of_le G0.out ST.out.size)
      have F0 := Aside0.mk (And.intro (Kd.F_below F0.out.1 ST.out) (And.intro (blk_below F0.out.2.1 ST.out) F0.out.2.2))
      refine hK _ _ ⟨⟨_, HV2.out⟩, rfl⟩ ?_
      clear hK K ST
      ((refine takeQ (i := 5) (by rfl) (by as_aux_lemma => kernel_rfl) (by as_aux_lemma => kernel_rfl) (by as_aux_lemma => kernel_rfl) ?_ ?_ ?_); (focus exact fun _ _ _ _ h => h); (focus exact ⟨⟨_, HV2.out⟩, rfl⟩); intro K hK; go_simp; (with_reducible refine hK _ ?_); clear hK K)
      ((refine takeQ (i := 6) (by rfl) (by as_aux_lemma => kernel_rfl) (by as_aux_lemma => kernel_rfl) (by as_aux_lemma => kernel_rfl) ?_ ?_ ?_); (focus exact fun _ _ _ _ h => h); (focus exact ⟨⟨_, HV2.out⟩, rfl⟩); intro K hK; go_simp; (with_reducible refine hK _ ?_); clear hK K)
      refine hall2 (i := 11) (j := 13) (by as_aux_lemma => kernel_rfl) (by rfl) (by rfl) (fun K hK => ?_) (fun K hK => ?_)
      · go_simp
        obtain ⟨v3, hv⟩ : ∃ x, v2.alloc (Obj.cells #[.string ⟨#[97]⟩, .int .i64 0, .int .i64 1, .int .i64 2, .slice (some ⟨a0, 0, none⟩) 1 c0, .slice E0 0 e0, .string ⟨#[98]⟩, .int .i64 0, .int .i64 2, .int .i64 2, .slice (some ⟨g4, 0, none⟩) 2 2, .slice none 0 0, .string ⟨#[111]⟩, .int .i64 1, .int .i64 3, .int .i64 2, .slice (some ⟨a1, 0, none⟩) 1 c1, .slice A2 0 c2, .string ⟨#[99]⟩, .int .i64 2, .int .i64 4, .int .i64 2, .slice (some ⟨b1, 0, none⟩) 1 d1, .slice B2 0 d2] 50) = x := ⟨_, rfl⟩
        rw [hv]
        obtain ⟨gR, hg⟩ : ∃ x, v2.heap.size = x := ⟨_, rfl⟩
        rw [hg]
        have F11 : Aside0 (v3.heap[gR]? = some (.cells #[.string ⟨#[97]⟩, .int .i64 0, .int .i64 1, .int .i64 2, .slice (some ⟨a0, 0, none⟩) 1 c0, .slice E0 0 e0, .string ⟨#[98]⟩, .int .i64 0, .int .i64 2, .int .i64 2, .slice (some ⟨g4, 0, none⟩) 2 2, .slice none 0 0, .string ⟨#[111]⟩, .int .i64 1, .int .i64 3, .int .i64 2, .slice (some ⟨a1, 0, none⟩) 1 c1, .slice A2 0 c2, .string ⟨#[99]⟩, .int .i64 2, .int .i64 4, .int .i64 2, .slice (some ⟨b1, 0, none⟩) 1 d1, .slice B2 0 d2] 50 (0, 0))) := ⟨by rw [← hv, ← hg]; exact blk_new _ _⟩
        have GW11 : Aside0 (W.heap.size < gR) := ⟨by have h1 := HW3.out; have h2 := HV2.out.size; omega⟩
        have ST : Aside0 (Below v2.heap.size v2 v3) := ⟨hv ▸ below1 _ _⟩
        have HV3 : Aside0 (Below w3.heap.size w3 v3) := ⟨join_below HV2.out ST.out⟩
        clear hv hg
        have G0 := Aside0.mk (Nat.lt_of_lt_of_le G0.out ST.out.size)
        have F0 := Aside0.mk (And.intro (Kd.F_below F0.out.1 ST.out) (And.intro (blk_below F0.out.2.1 ST.out) F0.out.2.2))
        have F4 := Aside0.mk (blk_below F4.out ST.out)
        refine hK _ _ ⟨⟨_, HV3.out⟩, rfl⟩ ?_
        clear hK K ST
        ((refine takeQ (i := 12) (by rfl) (by as_aux_lemma => kernel_rfl) (by as_aux_lemma => kernel_rfl) (by as_aux_lemma => kernel_rfl) ?_ ?_ ?_); (focus exact fun _ _ _ _ h => h); (focus exact ⟨⟨_, HV3.out⟩, rfl⟩); intro K hK; go_simp; (with_reducible refine hK _ ?_); clear hK K)
        refine hall1 (i := 13) (by as_aux_lemma => kernel_rfl) (by rfl) (fun K hK => ?_)
        go_simp
        obtain ⟨v4, hv⟩ : ∃ x, v3.alloc (Obj.cells #[.slice none 0 0, .slice none 0 0] 26) = x := ⟨_, rfl⟩
        rw [hv]
        obtain ⟨g13, hg⟩ : ∃ x, v3.heap.size = x := ⟨_, rfl⟩
        rw [hg]
        have F13 : Aside0 (v4.heap[g13]? = some (.cells #[.slice none 0 0, .slice none 0 0] 26 (0, 0))) := ⟨by rw [← hv, ← hg]; exact blk_new _ _⟩
        have GW13 : Aside0 (W.heap.size < g13) := ⟨by have h1 := HW3.out; have h2 := HV3.out.size; omega⟩
        have ST : Aside0 (Below v3.heap.size v3 v4) := ⟨hv ▸ below1 _ _⟩
        have HV4 : Aside0 (Below w3.heap.size w3 v4) := ⟨join_below HV3.out ST.out⟩
        have FN : Aside0 (a0 ≠ g13) := ⟨by have := G0.out; omega⟩
        have HGE : Aside0 (w3.heap.size ≤ g13) := ⟨hg ▸ HV3.out.size⟩
        clear hv hg
        have G0 := Aside0.mk (Nat.lt_of_lt_of_le G0.out ST.out.size)
        have F0 := Aside0.mk (And.intro (Kd.F_below F0.out.1 ST.out) (And.intro (blk_below F0.out.2.1 ST.out) F0.out.2.2))
        have F4 := Aside0.mk (blk_below F4.out ST.out)
        have F11 := Aside0.mk (blk_below F11.out ST.out)
        refine hK _ _ ⟨⟨_, HV4.out⟩, rfl⟩ ?_
        clear hK K ST
        have ne4 : g4 ≠ g13 := fun e => by have h := F4.out; rw [e, F13.out] at h; simp at h
        have neR : gR ≠ g13 := fun e => by have h := F11.out; rw [e, F13.out] at h; simp at h
        have y0 : World.cell? v4 ⟨g13, 0, none⟩ = some (.slice none 0 0) := (blk_cell F13.out 0).trans rfl
        have y1 : World.cell? v4 ⟨g13, 1, none⟩ = some (.slice none 0 0) := (blk_cell F13.out 1).trans rfl
        have z0 := blk_frozen F13.out 0
        have z1 := blk_frozen F13.out 1
        have hp1 := blk_put F13.out 0 (.slice (some ⟨gR, 0, none⟩) 4 4) rfl
        have y2 : (World.setCell v4 ⟨g13, 0, none⟩ (.slice (some ⟨gR, 0, none⟩) 4 4)).cell? ⟨g13, 1, none⟩ = some (.slice none 0 0) := (blk_cell hp1 1).trans rfl
        have z2 := blk_frozen hp1 1
        have hp2 := blk_put hp1 1 (.slice none 0 0) rfl
        obtain ⟨uf, huf⟩ : ∃ x, (World.setCell v4 ⟨g13, 0, none⟩ (.slice (some ⟨gR, 0, none⟩) 4 4)).setCell ⟨g13, 1, none⟩ (.slice none 0 0) = x := ⟨_, rfl⟩
        have HBF : Aside0 (Below w3.heap.size w3 uf) := ⟨huf ▸ (HV4.out.setCell HGE.out _).setCell HGE.out _⟩
        have f11 := blk_far (p := ⟨g13, 1, none⟩) (blk_far (p := ⟨g13, 0, none⟩) F11.out neR (.slice (some ⟨gR, 0, none⟩) 4 4)) neR (.slice none 0 0)
        have f4 := blk_far (p := ⟨g13, 1, none⟩) (blk_far (p := ⟨g13, 0, none⟩) F4.out ne4 (.slice (some ⟨gR, 0, none⟩) 4 4)) ne4 (.slice none 0 0)
        have f0 := Kd.F_far (p := ⟨g13, 1, none⟩) (Kd.F_far (p := ⟨g13, 0, none⟩) F0.out.1 (fun k hk => by rw [hk]; exact FN.out) (.slice (some ⟨gR, 0, none⟩) 4 4)) (fun k hk => by rw [hk]; exact FN.out) (.slice none 0 0)
        have fx := blk_far (p := ⟨g13, 1, none⟩) (blk_far (p := ⟨g13, 0, none⟩) F0.out.2.1 FN.out (.slice (some ⟨gR, 0, none⟩) 4 4)) FN.out (.slice none 0 0)
        rw [huf] at hp2 f11 f4 f0 fx
        have HF := Aside0.mk hp2
        have HX := Aside0.mk (And.intro f11 (And.intro f4 (And.intro f0 (And.intro fx F0.out.2.2))))
        have NE := Aside0.mk (And.intro neR ne4)
        clear hp2 f11 f4 f0 fx ne4 neR hp1
        refine hall1 (i := 14) (by as_aux_lemma => kernel_rfl) (by rfl) (fun K hK => ?_)
        go_simp
        clear huf y0 y1 y2 z0 z1 z2 F0 F4 F11 F13
        refine hK _ _ ⟨⟨_, HBF.out⟩, rfl⟩ ?_
        clear hK K
        refine wpAnyH_done (by as_aux_lemma => kernel_rfl) ?_ _
        go_wp2
        go_meet
        case rel =>
         have hx := HX.out
         have BB := join_below HB3.out HBF.out
         have c4 := blk_below (blk_below H1.out.2.2.1 HB12.out) BB
         have c5 := blk_below H2.out.2.2.1 BB
         have l1 := blk_lt (blk_below (blk_below H1.out.2.2.1 HB12.out) HB3.out)
         have l2 := blk_lt (blk_below H2.out.2.2.1 HB3.out)
         have lg := HGE.out
         exact ⟨g13, rfl, ⟨⟨⟨gR, HF.out, made_rowP hx.1 (range_new hx.2.1) hx.2.2.2.2.2 hx.2.2.1 (fun _ => re_none hx.2.2.2.2.1) H1.out.1 (Kd.F_below (Kd.F_below H1.out.2.1 HB12.out) BB) (fun _ => re_none H1.out.2.2.2) H2.out.1 (Kd.F_below H2.out.2.1 BB) (fun _ => re_none H2.out.2.2.2) (Nat.le_of_lt GW11.out) ⟨GW11.out, NE.out.1⟩ ⟨⟨GW.out, FN.out⟩, ne_type hx.2.2.2.1 hx.1 (by decide)⟩ ⟨⟨N1.out, by omega⟩, ne_type c4 hx.1 (by decide)⟩ ⟨⟨N2.out, by omega⟩, ne_type c5 hx.1 (by decide)⟩ ⟨⟨GW4.out, NE.out.2⟩, ne_type hx.2.1 hx.1 (by decide)⟩⟩, HGE.out, HBF.out⟩⟩⟩
      · go_simp
        obtain ⟨v3, hv⟩ : ∃ x, v2.alloc (Obj.cells #[.slice none 0 0, .slice none 0 0] 26) = x := ⟨_, rfl⟩
        rw [hv]
        obtain ⟨g13, hg⟩ : ∃ x, v2.heap.size = x := ⟨_, rfl⟩
        rw [hg]
        have F13 : Aside0 (v3.heap[g13]? = some (.cells #[.slice none 0 0, .slice none 0 0] 26 (0, 0))) := ⟨by rw [← hv, ← hg]; exact blk_new _ _⟩
        have GW13 : Aside0 (W.heap.size < g13) := ⟨by have h1 := HW3.out; have h2 := HV2.out.size; omega⟩
        have ST : Aside0 (Below v2.heap.size v2 v3) := ⟨hv ▸ below1 _ _⟩
        have HV3 : Aside0 (Below w3.heap.size w3 v3) := ⟨join_below HV2.out ST.out⟩
        have FN : Aside0 (a0 ≠ g13) := ⟨by have := G0.out; omega⟩
        have HGE : Aside0 (w3.heap.size ≤ g13) := ⟨hg ▸ HV2.out.size⟩
        clear hv hg
        have G0 := Aside0.mk (Nat.lt_of_lt_of_le G0.out ST.out.size)
        have F0 := Aside0.mk (And.intro (Kd.F_below F0.out.1 ST.out) (And.intro (blk_below F0.out.2.1 ST.out) F0.out.2.2))
        have F4 := Aside0.mk (blk_below F4.out ST.out)
        refine hK _ _ ⟨⟨_, HV3.out⟩, rfl⟩ ?_
        clear hK K ST
        refine hall1 (i := 11) (by as_aux_lemma => kernel_rfl) (by rfl) (fun K hK => ?_)
        go_simp
        obtain ⟨v4, hv⟩ : ∃ x, v3.alloc (Obj.cells #[.string ⟨#[97]⟩, .int .i64 0, .int .i64 1, .int .i64 2, .slice (some ⟨a0, 0, none⟩) 1 c0, .slice E0 0 e0, .string ⟨#[98]⟩, .int .i64 0, .int .i64 2, .int .i64 2, .slice (some ⟨g4, 0, none⟩) 2 2, .slice none 0 0, .string ⟨#[111]⟩, .int .i64 1, .int .i64 3, .int .i64 2, .slice (some ⟨a1, 0, none⟩) 1 c1, .slice A2 0 c2, .string ⟨#[99]⟩, .int .i64 2, .int .i64 4, .int .i64 2, .slice (some ⟨b1, 0, none⟩) 1 d1, .slice B2 0 d2] 50) = x := ⟨_, rfl⟩
        rw [hv]
        obtain ⟨gR, hg⟩ : ∃ x, v3.heap.size = x := ⟨_, rfl⟩
        rw [hg]
        have F11 : Aside0 (v4.heap[gR]? = some (.cells #[.string ⟨#[97]⟩, .int .i64 0, .int .i64 1, .int .i64 2, .slice (some ⟨a0, 0, none⟩) 1 c0, .slice E0 0 e0, .string ⟨#[98]⟩, .int .i64 0, .int .i64 2, .int .i64 2, .slice (some ⟨g4, 0, none⟩) 2 2, .slice none 0 0, .string ⟨#[111]⟩, .int .i64 1, .int .i64 3, .int .i64 2, .slice (some ⟨a1, 0, none⟩) 1 c1, .slice A2 0 c2, .string ⟨#[99]⟩, .int .i64 2, .int .i64 4, .int .i64 2, .slice (some ⟨b1, 0, none⟩) 1 d1, .slice B2 0 d2] 50 (0, 0))) := ⟨by rw [← hv, ← hg]; exact blk_new _ _⟩
        have GW11 : Aside0 (W.heap.size < gR) := ⟨by have h1 := HW3.out; have h2 := HV3.out.size; omega⟩
        have ST : Aside0 (Below v3.heap.size v3 v4) := ⟨hv ▸ below1 _ _⟩
        have HV4 : Aside0 (Below w3.heap.size w3 v4) := ⟨join_below HV3.out ST.out⟩
        clear hv hg
        have G0 := Aside0.mk (Nat.lt_of_lt_of_le G0.out ST.out.size)
        have F0 := Aside0.mk (And.intro (Kd.F_below F0.out.1 ST.out) (And.intro (blk_below F0.out.2.1 ST.out) F0.out.2.2))
        have F4 := Aside0.mk (blk_below F4.out ST.out)
        have F13 := Aside0.mk (blk_below F13.out ST.out)
        refine hK _ _ ⟨⟨_, HV4.out⟩, rfl⟩ ?_
        clear hK K ST
        ((refine takeQ (i := 12) (by rfl) (by as_aux_lemma => kernel_rfl) (by as_aux_lemma => kernel_rfl) (by as_aux_lemma => kernel_rfl) ?_ ?_ ?_); (focus exact fun _ _ _ _ h => h); (focus exact ⟨⟨_, HV4.out⟩, rfl⟩); intro K hK; go_simp; (with_reducible refine hK _ ?_); clear hK K)
        have ne4 : g4 ≠ g13 := fun e => by have h := F4.out; rw [e, F13.out] at h; simp at h
        have neR : gR ≠ g13 := fun e => by have h := F11.out; rw [e, F13.out] at h; simp at h
        have y0 : World.cell? v4 ⟨g13, 0, none⟩ = some (.slice none 0 0) := (blk_cell F13.out 0).trans rfl
        have y1 : World.cell? v4 ⟨g13, 1, none⟩ = some (.slice none 0 0) := (blk_cell F13.out 1).trans rfl
        have z0 := blk_frozen F13.out 0
        have z1 := blk_frozen F13.out 1
        have hp1 := blk_put F13.out 0 (.slice (some ⟨gR, 0, none⟩) 4 4) rfl
        have y2 : (World.setCell v4 ⟨g13, 0, none⟩ (.slice (some ⟨gR, 0, none⟩) 4 4)).cell? ⟨g13, 1, none⟩ = some (.slice none 0 0) := (blk_cell hp1 1).trans rfl
        have z2 := blk_frozen hp1 1
        have hp2 := blk_put hp1 1 (.slice none 0 0) rfl
        obtain ⟨uf, huf⟩ : ∃ x, (World.setCell v4 ⟨g13, 0, none⟩ (.slice (some ⟨gR, 0, none⟩) 4 4)).setCell ⟨g13, 1, none⟩ (.slice none 0 0) = x := ⟨_, rfl⟩
        have HBF : Aside0 (Below w3.heap.size w3 uf) := ⟨huf ▸ (HV4.out.setCell HGE.out _).setCell HGE.out _⟩
        have f11 := blk_far (p := ⟨g13, 1, none⟩) (blk_far (p := ⟨g13, 0, none⟩) F11.out neR (.slice (some ⟨gR, 0, none⟩) 4 4)) neR (.slice none 0 0)
        have f4 := blk_far (p := ⟨g13, 1, none⟩) (blk_far (p := ⟨g13, 0, none⟩) F4.out ne4 (.slice (some ⟨gR, 0, none⟩) 4 4)) ne4 (.slice none 0 0)
        have f0 := Kd.F_far (p := ⟨g13, 1, none⟩) (Kd.F_far (p := ⟨g13, 0, none⟩) F0.out.1 (fun k hk => by rw [hk]; exact FN.out) (.slice (some ⟨gR, 0, none⟩) 4 4)) (fun k hk => by rw [hk]; exact FN.out) (.slice none 0 0)
        have fx := blk_far (p := ⟨g13, 1, none⟩) (blk_far (p := ⟨g13, 0, none⟩) F0.out.2.1 FN.out (.slice (some ⟨gR, 0, none⟩) 4 4)) FN.out (.slice none 0 0)
        rw [huf] at hp2 f11 f4 f0 fx
        have HF := Aside0.mk hp2
        have HX := Aside0.mk (And.intro f11 (And.intro f4 (And.intro f0 (And.intro fx F0.out.2.2))))
        have NE := Aside0.mk (And.intro neR ne4)
        clear hp2 f11 f4 f0 fx ne4 neR hp1
        refine hall1 (i := 14) (by as_aux_lemma => kernel_rfl) (by rfl) (fun K hK => ?_)
        go_simp
        clear huf y0 y1 y2 z0 z1 z2 F0 F4 F11 F13
        refine hK _ _ ⟨⟨_, HBF.out⟩, rfl⟩ ?_
        clear hK K
        refine wpAnyH_done (by as_aux_lemma => kernel_rfl) ?_ _
        go_wp2
        go_meet
        case rel =>
         have hx := HX.out
         have BB := join_below HB3.out HBF.out
         have c4 := blk_below (blk_below H1.out.2.2.1 HB12.out) BB
         have c5 := blk_below H2.out.2.2.1 BB
         have l1 := blk_lt (blk_below (blk_below H1.out.2.2.1 HB12.out) HB3.out)
         have l2 := blk_lt (blk_below H2.out.2.2.1 HB3.out)
         have lg := HGE.out
         exact ⟨g13, rfl, ⟨⟨⟨gR, HF.out, made_rowP hx.1 (range_new hx.2.1) hx.2.2.2.2.2 hx.2.2.1 (fun _ => re_none hx.2.2.2.2.1) H1.out.1 (Kd.F_below (Kd.F_below H1.out.2.1 HB12.out) BB) (fun _ => re_none H1.out.2.2.2) H2.out.1 (Kd.F_below H2.out.2.1 BB) (fun _ => re_none H2.out.2.2.2) (Nat.le_of_lt GW11.out) ⟨GW11.out, NE.out.1⟩ ⟨⟨GW.out, FN.out⟩, ne_type hx.2.2.2.1 hx.1 (by decide)⟩ ⟨⟨N1.out, by omega⟩, ne_type c4 hx.1 (by decide)⟩ ⟨⟨N2.out, by omega⟩, ne_type c5 hx.1 (by decide)⟩ ⟨⟨GW4.out, NE.out.2⟩, ne_type hx.2.1 hx.1 (by decide)⟩⟩, HGE.out, HBF.out⟩⟩⟩
    · go_simp
      obtain ⟨v2, hv⟩ : ∃ x, v1.alloc (Obj.cells #[.slice none 0 0, .slice none 0 0] 26) = x := ⟨_, rfl⟩
      rw [hv]
      obtain ⟨g13, hg⟩ : ∃ x, v1.heap.size = x := ⟨_, rfl⟩
      rw [hg]
      have F13 : Aside0 (v2.heap[g13]? = some (.cells #[.slice none 0 0, .slice none 0 0] 26 (0, 0))) := ⟨by rw [← hv, ← hg]; exact blk_new _ _⟩
      have GW13 : Aside0 (W.heap.size < g13) := ⟨by have h1 := HW3.out; have h2 := HV1.out.size; omega⟩
      have ST : Aside0 (Below v1.heap.size v1 v2) := ⟨hv ▸ below1 _ _⟩
      have HV2 : Aside0 (Below w3.heap.size w3 v2) := ⟨join_below HV1.out ST.out⟩
      have FN : Aside0 (a0 ≠ g13) := ⟨by have := G0.out; omega⟩
      have HGE : Aside0 (w3.heap.size ≤ g13) := ⟨hg ▸ HV1.out.size⟩
      clear hv hg
      have G0 := Aside0.mk (Nat.lt_of_lt_of_le G0.out ST.out.size)
      have F0 := Aside0.mk (And.intro (Kd.F_below F0.out.1 ST.out) (And.intro (blk_below F0.out.2.1 ST.out) F0.out.2.2))
      refine hK _ _ ⟨⟨_, HV2.out⟩, rfl⟩ ?_
      clear hK K ST
      refine hall1 (i := 4) (by as_aux_lemma => kernel_rfl) (by rfl) (fun K hK => ?_)
      go_simp
      obtain ⟨v3, hv⟩ : ∃ x, v2.alloc (Obj.cells #[.int .i32 10, .int .i32 10, .int .i32 98, .int .i32 98] 56) = x := ⟨_, rfl⟩
      rw [hv]
      obtain ⟨g4, hg⟩ : ∃ x, v2.heap.size = x := ⟨_, rfl⟩
      rw [hg]
      have F4 : Aside0 (v3.heap[g4]? = some (.cells #[.int .i32 10, .int .i32 10, .int .i32 98, .int .i32 98] 56 (0, 0))) := ⟨by rw [← hv, ← hg]; exact blk_new _ _⟩
      have GW4 : Aside0 (W.heap.size < g4) := ⟨by have h1 := HW3.out; have h2 := HV2.out.size; omega⟩
      have ST : Aside0 (Below v2.heap.size v2 v3) := ⟨hv ▸ below1 _ _⟩
      have HV3 : Aside0 (Below w3.heap.size w3 v3) := ⟨join_below HV2.out ST.out⟩
      clear hv hg
      have G0 := Aside0.mk (Nat.lt_of_lt_of_le G0.out ST.out.size)
      have F0 := Aside0.mk (And.intro (Kd.F_below F0.out.1 ST.out) (And.intro (blk_below F0.out.2.1 ST.out) F0.out.2.2))
      have F13 := Aside0.mk (blk_below F13.out ST.out)
      refine hK _ _ ⟨⟨_, HV3.out⟩, rfl⟩ ?_
      clear hK K ST
      ((refine takeQ (i := 5) (by rfl) (by as_aux_lemma => kernel_rfl) (by as_aux_lemma => kernel_rfl) (by as_aux_lemma => kernel_rfl) ?_ ?_ ?_); (focus exact fun _ _ _ _ h => h); (focus exact ⟨⟨_, HV3.out⟩, rfl⟩); intro K hK; go_simp; (with_reducible refine hK _ ?_); clear hK K)
      ((refine takeQ (i := 6) (by rfl) (by as_aux_lemma => kernel_rfl) (by as_aux_lemma => kernel_rfl) (by as_aux_lemma => kernel_rfl) ?_ ?_ ?_); (focus exact fun _ _ _ _ h => h); (focus exact ⟨⟨_, HV3.out⟩, rfl⟩); intro K hK; go_simp; (with_reducible refine hK _ ?_); clear hK K)
      refine hall1 (i := 11) (by as_aux_lemma => kernel_rfl) (by rfl) (fun K hK => ?_)
      go_simp
      obtain ⟨v4, hv⟩ : ∃ x, v3.alloc (Obj.cells #[.string ⟨#[97]⟩, .int .i64 0, .int .i64 1, .int .i64 2, .slice (some ⟨a0, 0, none⟩) 1 c0, .slice E0 0 e0, .string ⟨#[98]⟩, .int .i64 0, .int .i64 2, .int .i64 2, .slice (some ⟨g4, 0, none⟩) 2 2, .slice none 0 0, .string ⟨#[111]⟩, .int .i64 1, .int .i64 3, .int .i64 2, .slice (some ⟨a1, 0, none⟩) 1 c1, .slice A2 0 c2, .string ⟨#[99]⟩, .int .i64 2, .int .i64 4, .int .i64 2, .slice (some ⟨b1, 0, none⟩) 1 d1, .slice B2 0 d2] 50) = x := ⟨_, rfl⟩
      rw [hv]
      obtain ⟨gR, hg⟩ : ∃ x, v3.heap.size = x := ⟨_, rfl⟩
      rw [hg]
      have F11 : Aside0 (v4.heap[gR]? = some (.cells #[.string ⟨#[97]⟩, .int .i64 0, .int .i64 1, .int .i64 2, .slice (some ⟨a0, 0, none⟩) 1 c0, .slice E0 0 e0, .string ⟨#[98]⟩, .int .i64 0, .int .i64 2, .int .i64 2, .slice (some ⟨g4, 0, none⟩) 2 2, .slice none 0 0, .string ⟨#[111]⟩, .int .i64 1, .int .i64 3, .int .i64 2, .slice (some ⟨a1, 0, none⟩) 1 c1, .slice A2 0 c2, .string ⟨#[99]⟩, .int .i64 2, .int .i64 4, .int .i64 2, .slice (some ⟨b1, 0, none⟩) 1 d1, .slice B2 0 d2] 50 (0, 0))) := ⟨by rw [← hv, ← hg]; exact blk_new _ _⟩
      have GW11 : Aside0 (W.heap.size < gR) := ⟨by have h1 := HW3.out; have h2 := HV3.out.size; omega⟩
      have ST : Aside0 (Below v3.heap.size v3 v4) := ⟨hv ▸ below1 _ _⟩
      have HV4 : Aside0 (Below w3.heap.size w3 v4) := ⟨join_below HV3.out ST.out⟩
      clear hv hg
      have G0 := Aside0.mk (Nat.lt_of_lt_of_le G0.out ST.out.size)
      have F0 := Aside0.mk (And.intro (Kd.F_below F0.out.1 ST.out) (And.intro (blk_below F0.out.2.1 ST.out) F0.out.2.2))
      have F13 := Aside0.mk (blk_below F13.out ST.out)
      have F4 := Aside0.mk (blk_below F4.out ST.out)
      refine hK _ _ ⟨⟨_, HV4.out⟩, rfl⟩ ?_
      clear hK K ST
      ((refine takeQ (i := 12) (by rfl) (by as_aux_lemma => kernel_rfl) (by as_aux_lemma => kernel_rfl) (by as_aux_lemma => kernel_rfl) ?_ ?_ ?_); (focus exact fun _ _ _ _ h => h); (focus exact ⟨⟨_, HV4.out⟩, rfl⟩); intro K hK; go_simp; (with_reducible refine hK _ ?_); clear hK K)
      have ne4 : g4 ≠ g13 := fun e => by have h := F4.out; rw [e, F13.out] at h; simp at h
      have neR : gR ≠ g13 := fun e => by have h := F11.out; rw [e, F13.out] at h; simp at h
      have y0 : World.cell? v4 ⟨g13, 0, none⟩ = some (.slice none 0 0) := (blk_cell F13.out 0).trans rfl
      have y1 : World.cell? v4 ⟨g13, 1, none⟩ = some (.slice none 0 0) := (blk_cell F13.out 1).trans rfl
      have z0 := blk_frozen F13.out 0
      have z1 := blk_frozen F13.out 1
      have hp1 := blk_put F13.out 0 (.slice (some ⟨gR, 0, none⟩) 4 4) rfl
      have y2 : (World.setCell v4 ⟨g13, 0, none⟩ (.slice (some ⟨gR, 0, none⟩) 4 4)).cell? ⟨g13, 1, none⟩ = some (.slice none 0 0) := (blk_cell hp1 1).trans rfl
      have z2 := blk_frozen hp1 1
      have hp2 := blk_put hp1 1 (.slice none 0 0) rfl
      obtain ⟨uf, huf⟩ : ∃ x, (World.setCell v4 ⟨g13, 0, none⟩ (.slice (some ⟨gR, 0, none⟩) 4 4)).setCell ⟨g13, 1, none⟩ (.slice none 0 0) = x := ⟨_, rfl⟩
      have HBF : Aside0 (Below w3.heap.size w3 uf) := ⟨huf ▸ (HV4.out.setCell HGE.out _).setCell HGE.out _⟩
      have f11 := blk_far (p := ⟨g13, 1, none⟩) (blk_far (p := ⟨g13, 0, none⟩) F11.out neR (.slice (some ⟨gR, 0, none⟩) 4 4)) neR (.slice none 0 0)
      have f4 := blk_far (p := ⟨g13, 1, none⟩) (blk_far (p := ⟨g13, 0, none⟩) F4.out ne4 (.slice (some ⟨gR, 0, none⟩) 4 4)) ne4 (.slice none 0 0)
      have f0 := Kd.F_far (p := ⟨g13, 1, none⟩) (Kd.F_far (p := ⟨g13, 0, none⟩) F0.out.1 (fun k hk => by rw [hk]; exact FN.out) (.slice (some ⟨gR, 0, none⟩) 4 4)) (fun k hk => by rw [hk]; exact FN.out) (.slice none 0 0)
      have fx := blk_far (p := ⟨g13, 1, none⟩) (blk_far (p := ⟨g13, 0, none⟩) F0.out.2.1 FN.out (.slice (some ⟨gR, 0, none⟩) 4 4)) FN.out (.slice none 0 0)
      rw [huf] at hp2 f11 f4 f0 fx
      have HF := Aside0.mk hp2
      have HX := Aside0.mk (And.intro f11 (And.intro f4 (And.intro f0 (And.intro fx F0.out.2.2))))
      have NE := Aside0.mk (And.intro neR ne4)
      clear hp2 f11 f4 f0 fx ne4 neR hp1
      refine hall1 (i := 14) (by as_aux_lemma => kernel_rfl) (by rfl) (fun K hK => ?_)
      go_simp
      clear huf y0 y1 y2 z0 z1 z2 F0 F4 F11 F13
      refine hK _ _ ⟨⟨_, HBF.out⟩, rfl⟩ ?_
      clear hK K
      refine wpAnyH_done (by as_aux_lemma => kernel_rfl) ?_ _
      go_wp2
      go_meet
      case rel =>
       have hx := HX.out
       have BB := join_below HB3.out HBF.out
       have c4 := blk_below (blk_below H1.out.2.2.1 HB12.out) BB
       have c5 := blk_below H2.out.2.2.1 BB
       have l1 := blk_lt (blk_below (blk_below H1.out.2.2.1 HB12.out) HB3.out)
       have l2 := blk_lt (blk_below H2.out.2.2.1 HB3.out)
       have lg := HGE.out
       exact ⟨g13, rfl, ⟨⟨⟨gR, HF.out, made_rowP hx.1 (range_new hx.2.1) hx.2.2.2.2.2 hx.2.2.1 (fun _ => re_none hx.2.2.2.2.1) H1.out.1 (Kd.F_below (Kd.F_below H1.out.2.1 HB12.out) BB) (fun _ => re_none H1.out.2.2.2) H2.out.1 (Kd.F_below H2.out.2.1 BB) (fun _ => re_none H2.out.2.2.2) (Nat.le_of_lt GW11.out) ⟨GW11.out, NE.out.1⟩ ⟨⟨GW.out, FN.out⟩, ne_type hx.2.2.2.1 hx.1 (by decide)⟩ ⟨⟨N1.out, by omega⟩, ne_type c4 hx.1 (by decide)⟩ ⟨⟨N2.out, by omega⟩, ne_type c5 hx.1 (by decide)⟩ ⟨⟨GW4.out, NE.out.2⟩, ne_type hx.2.1 hx.1 (by decide)⟩⟩, HGE.out, HBF.out⟩⟩⟩
  · go_simp
    obtain ⟨v1, hv⟩ : ∃ x, wd.alloc (Obj.cells #[.int .i32 10, .int .i32 10, .int .i32 98, .int .i32 98] 56) = x := ⟨_, rfl⟩
    rw [hv]
    obtain ⟨g4, hg⟩ : ∃ x, wd.heap.size = x := ⟨_, rfl⟩
    rw [hg]
    have F4 : Aside0 (v1.heap[g4]? = some (.cells #[.int .i32 10, .int .i32 10, .int .i32 98, .int .i32 98] 56 (0, 0))) := ⟨by rw [← hv, ← hg]; exact blk_new _ _⟩
    have GW4 : Aside0 (W.heap.size < g4) := ⟨by have h1 := HW3.out; have h2 := HLAT.out.size; omega⟩
    have ST : Aside0 (Below wd.heap.size wd v1) := ⟨hv ▸ below1 _ _⟩
    have HV1 : Aside0 (Below w3.heap.size w3 v1) := ⟨join_below HLAT.out ST.out⟩
    clear hv hg
    refine hK _ _ ⟨⟨_, HV1.out⟩, rfl⟩ ?_
    clear hK K ST
    ((refine takeQ (i := 5) (by rfl) (by as_aux_lemma => kernel_rfl) (by as_aux_lemma => kernel_rfl) (by as_aux_lemma => kernel_rfl) ?_ ?_ ?_); (focus exact fun _ _ _ _ h => h); (focus exact ⟨⟨_, HV1.out⟩, rfl⟩); intro K hK; go_simp; (with_reducible refine hK _ ?_); clear hK K)
    ((refine takeQ (i := 6) (by rfl) (by as_aux_lemma => kernel_rfl) (by as_aux_lemma => kernel_rfl) (by as_aux_lemma => kernel_rfl) ?_ ?_ ?_); (focus exact fun _ _ _ _ h => h); (focus exact ⟨⟨_, HV1.out⟩, rfl⟩); intro K hK; go_simp; (with_reducible refine hK _ ?_); clear hK K)
    refine hall2 (i := 0) (j := 13) (by as_aux_lemma => kernel_rfl) (by rfl) (by rfl) (fun K hK => ?_) (fun K hK => ?_)
    · go_simp
      refine (one_any 97 _).mono ?_
      rintro e v2 ⟨a0, c0, E0, e0, X0, rfl, f1, f2, fX, f3, f4, f5, hb⟩
      have G0 := Aside0.mk f5
      have GW : Aside0 (W.heap.size < a0) := ⟨by have h1 := HW3.out; have h2 := HV1.out.size; omega⟩
      have ST := Aside0.mk hb
      have HV2 : Aside0 (Below w3.heap.size w3 v2) := ⟨join_below HV1.out hb⟩
      have F0 := Aside0.mk (And.intro f2 (And.intro fX (And.intro f3 f1)))
      clear f1 f2 f3 f4 f5 fX hb
      have F4 := Aside0.mk (blk_below F4.out ST.out)
      refine hK _ _ ⟨⟨_, HV2.out⟩, rfl⟩ ?_
      clear hK K ST
      ((refine takeQ (i := 1) (by rfl) (by as_aux_lemma => kernel_rfl) (by as_aux_lemma => kernel_rfl) (by as_aux_lemma => kernel_rfl) ?_ ?_ ?_); (focus exact fun _ _ _ _ h => h); (focus exact ⟨⟨_, HV2.out⟩, rfl⟩); intro K hK; go_simp; (with_reducible refine hK _ ?_); clear hK K)
      refine hall2 (i := 11) (j := 13) (by as_aux_lemma => kernel_rfl) (by rfl) (by rfl) (fun K hK => ?_) (fun K hK => ?_)
      · go_simp
        obtain ⟨v3, hv⟩ : ∃ x, v2.alloc (Obj.cells #[.string ⟨#[97]⟩, .int .i64 0, .int .i64 1, .int .i64 2, .slice (some ⟨a0, 0, none⟩) 1 c0, .slice E0 0 e0, .string ⟨#[98]⟩, .int .i64 0, .int .i64 2, .int .i64 2, .slice (some ⟨g4, 0, none⟩) 2 2, .slice none 0 0, .string ⟨#[111]⟩, .int .i64 1, .int .i64 3, .int .i64 2, .slice (some ⟨a1, 0, none⟩) 1 c1, .slice A2 0 c2, .string ⟨#[99]⟩, .int .i64 2, .int .i64 4, .int .i64 2, .slice (some ⟨b1, 0, none⟩) 1 d1, .slice B2 0 d2] 50) = x := ⟨_, rfl⟩
        rw [hv]
        obtain ⟨gR, hg⟩ : ∃ x, v2.heap.size = x := ⟨_, rfl⟩
        rw [hg]
        have F11 : Aside0 (v3.heap[gR]? = some (.cells #[.string ⟨#[97]⟩, .int .i64 0, .int .i64 1, .int .i64 2, .slice (some ⟨a0, 0, none⟩) 1 c0, .slice E0 0 e0, .string ⟨#[98]⟩, .int .i64 0, .int .i64 2, .int .i64 2, .slice (some ⟨g4, 0, none⟩) 2 2, .slice none 0 0, .string ⟨#[111]⟩, .int .i64 1, .int .i64 3, .int .i64 2, .slice (some ⟨a1, 0, none⟩) 1 c1, .slice A2 0 c2, .string ⟨#[99]⟩, .int .i64 2, .int .i64 4, .int .i64 2, .slice (some ⟨b1, 0, none⟩) 1 d1, .slice B2 0 d2] 50 (0, 0))) := ⟨by rw [← hv, ← hg]; exact blk_new _ _⟩
        have GW11 : Aside0 (W.heap.size < gR) := ⟨by have h1 := HW3.out; have h2 := HV2.out.size; omega⟩
        have ST : Aside0 (Below v2.heap.size v2 v3) := ⟨hv ▸ below1 _ _⟩
        have HV3 : Aside0 (Below w3.heap.size w3 v3) := ⟨join_below HV2.out ST.out⟩
        clear hv hg
        have F4 := Aside0.mk (blk_below F4.out ST.out)
        have G0 := Aside0.mk (Nat.lt_of_lt_of_le G0.out ST.out.size)
        have F0 := Aside0.mk (And.intro (Kd.F_below F0.out.1 ST.out) (And.intro (blk_below F0.out.2.1 ST.out) F0.out.2.2))
        refine hK _ _ ⟨⟨_, HV3.out⟩, rfl⟩ ?_
        clear hK K ST
        ((refine takeQ (i := 12) (by rfl) (by as_aux_lemma => kernel_rfl) (by as_aux_lemma => kernel_rfl) (by as_aux_lemma => kernel_rfl) ?_ ?_ ?_); (focus exact fun _ _ _ _ h => h); (focus exact ⟨⟨_, HV3.out⟩, rfl⟩); intro K hK; go_simp; (with_reducible refine hK _ ?_); clear hK K)
        refine hall1 (i := 13) (by as_aux_lemma => kernel_rfl) (by rfl) (fun K hK => ?_)
        go_simp
        obtain ⟨v4, hv⟩ : ∃ x, v3.alloc (Obj.cells #[.slice none 0 0, .slice none 0 0] 26) = x := ⟨_, rfl⟩
        rw [hv]
        obtain ⟨g13, hg⟩ : ∃ x, v3.heap.size = x := ⟨_, rfl⟩
        rw [hg]
        have F13 : Aside0 (v4.heap[g13]? = some (.cells #[.slice none 0 0, .slice none 0 0] 26 (0, 0))) := ⟨by rw [← hv, ← hg]; exact blk_new _ _⟩
        have GW13 : Aside0 (W.heap.size < g13) := ⟨by have h1 := HW3.out; have h2 := HV3.out.size; omega⟩
        have ST : Aside0 (Below v3.heap.size v3 v4) := ⟨hv ▸ below1 _ _⟩
        have HV4 : Aside0 (Below w3.heap.size w3 v4) := ⟨join_below HV3.out ST.out⟩
        have FN : Aside0 (a0 ≠ g13) := ⟨by have := G0.out; omega⟩
        have HGE : Aside0 (w3.heap.size ≤ g13) := ⟨hg ▸ HV3.out.size⟩
        clear hv hg
        have F4 := Aside0.mk (blk_below F4.out ST.out)
        have G0 := Aside0.mk (Nat.lt_of_lt_of_le G0.out ST.out.size)
        have F0 := Aside0.mk (And.intro (Kd.F_below F0.out.1 ST.out) (And.intro (blk_below F0.out.2.1 ST.out) F0.out.2.2))
        have F11 := Aside0.mk (blk_below F11.out ST.out)
        refine hK _ _ ⟨⟨_, HV4.out⟩, rfl⟩ ?_
        clear hK K ST
        have ne4 : g4 ≠ g13 := fun e => by have h := F4.out; rw [e, F13.out] at h; simp at h
        have neR : gR ≠ g13 := fun e => by have h := F11.out; rw [e, F13.out] at h; simp at h
        have y0 : World.cell? v4 ⟨g13, 0, none⟩ = some (.slice none 0 0) := (blk_cell F13.out 0).trans rfl
        have y1 : World.cell? v4 ⟨g13, 1, none⟩ = some (.slice none 0 0) := (blk_cell F13.out 1).trans rfl
        have z0 := blk_frozen F13.out 0
        have z1 := blk_frozen F13.out 1
        have hp1 := blk_put F13.out 0 (.slice (some ⟨gR, 0, none⟩) 4 4) rfl
        have y2 : (World.setCell v4 ⟨g13, 0, none⟩ (.slice (some ⟨gR, 0, none⟩) 4 4)).cell? ⟨g13, 1, none⟩ = some (.slice none 0 0) := (blk_cell hp1 1).trans rfl
        have z2 := blk_frozen hp1 1
        have hp2 := blk_put hp1 1 (.slice none 0 0) rfl
        obtain ⟨uf, huf⟩ : ∃ x, (World.setCell v4 ⟨g13, 0, none⟩ (.slice (some ⟨gR, 0, none⟩) 4 4)).setCell ⟨g13, 1, none⟩ (.slice none 0 0) = x := ⟨_, rfl⟩
        have HBF : Aside0 (Below w3.heap.size w3 uf) := ⟨huf ▸ (HV4.out.setCell HGE.out _).setCell HGE.out _⟩
        have f11 := blk_far (p := ⟨g13, 1, none⟩) (blk_far (p := ⟨g13, 0, none⟩) F11.out neR (.slice (some ⟨gR, 0, none⟩) 4 4)) neR (.slice none 0 0)
        have f4 := blk_far (p := ⟨g13, 1, none⟩) (blk_far (p := ⟨g13, 0, none⟩) F4.out ne4 (.slice (some ⟨gR, 0, none⟩) 4 4)) ne4 (.slice none 0 0)
        have f0 := Kd.F_far (p := ⟨g13, 1, none⟩) (Kd.F_far (p := ⟨g13, 0, none⟩) F0.out.1 (fun k hk => by rw [hk]; exact FN.out) (.slice (some ⟨gR, 0, none⟩) 4 4)) (fun k hk => by rw [hk]; exact FN.out) (.slice none 0 0)
        have fx := blk_far (p := ⟨g13, 1, none⟩) (blk_far (p := ⟨g13, 0, none⟩) F0.out.2.1 FN.out (.slice (some ⟨gR, 0, none⟩) 4 4)) FN.out (.slice none 0 0)
        rw [huf] at hp2 f11 f4 f0 fx
        have HF := Aside0.mk hp2
        have HX := Aside0.mk (And.intro f11 (And.intro f4 (And.intro f0 (And.intro fx F0.out.2.2))))
        have NE := Aside0.mk (And.intro neR ne4)
        clear hp2 f11 f4 f0 fx ne4 neR hp1
        refine hall1 (i := 14) (by as_aux_lemma => kernel_rfl) (by rfl) (fun K hK => ?_)
        go_simp
        clear huf y0 y1 y2 z0 z1 z2 F0 F4 F11 F13
        refine hK _ _ ⟨⟨_, HBF.out⟩, rfl⟩ ?_
        clear hK K
        refine wpAnyH_done (by as_aux_lemma => kernel_rfl) ?_ _
        go_wp2
        go_meet
        case rel =>
         have hx := HX.out
         have BB := join_below HB3.out HBF.out
         have c4 := blk_below (blk_below H1.out.2.2.1 HB12.out) BB
         have c5 := blk_below H2.out.2.2.1 BB
         have l1 := blk_lt (blk_below (blk_below H1.out.2.2.1 HB12.out) HB3.out)
         have l2 := blk_lt (blk_below H2.out.2.2.1 HB3.out)
         have lg := HGE.out
         exact ⟨g13, rfl, ⟨⟨⟨gR, HF.out, made_rowP hx.1 (range_new hx.2.1) hx.2.2.2.2.2 hx.2.2.1 (fun _ => re_none hx.2.2.2.2.1) H1.out.1 (Kd.F_below (Kd.F_below H1.out.2.1 HB12.out) BB) (fun _ => re_none H1.out.2.2.2) H2.out.1 (Kd.F_below H2.out.2.1 BB) (fun _ => re_none H2.out.2.2.2) (Nat.le_of_lt GW11.out) ⟨GW11.out, NE.out.1⟩ ⟨⟨GW.out, FN.out⟩, ne_type hx.2.2.2.1 hx.1 (by decide)⟩ ⟨⟨N1.out, by omega⟩, ne_type c4 hx.1 (by decide)⟩ ⟨⟨N2.out, by omega⟩, ne_type c5 hx.1 (by decide)⟩ ⟨⟨GW4.out, NE.out.2⟩, ne_type hx.2.1 hx.1 (by decide)⟩⟩, HGE.out, HBF.out⟩⟩⟩
      · go_simp
        obtain ⟨v3, hv⟩ : ∃ x, v2.alloc (Obj.cells #[.slice none 0 0, .slice none 0 0] 26) = x := ⟨_, rfl⟩
        rw [hv]
        obtain ⟨g13, hg⟩ : ∃ x, v2.heap.size = x := ⟨_, rfl⟩
        rw [hg]
        have F13 : Aside0 (v3.heap[g13]? = some (.cells #[.slice none 0 0, .slice none 0 0] 26 (0, 0))) := ⟨by rw [← hv, ← hg]; exact blk_new _ _⟩
        have GW13 : Aside0 (W.heap.size < g13) := ⟨by have h1 := HW3.out; have h2 := HV2.out.size; omega⟩
        have ST : Aside0 (Below v2.heap.size v2 v3) := ⟨hv ▸ below1 _ _⟩
        have HV3 : Aside0 (Below w3.heap.size w3 v3) := ⟨join_below HV2.out ST.out⟩
        have FN : Aside0 (a0 ≠ g13) := ⟨by have := G0.out; omega⟩
        have HGE : Aside0 (w3.heap.size ≤ g13) := ⟨hg ▸ HV2.out.size⟩
        clear hv hg
        have F4 := Aside0.mk (blk_below F4.out ST.out)
        have G0 := Aside0.mk (Nat.lt_of_lt_of_le G0.out ST.out.size)
        have F0 := Aside0.mk (And.intro (Kd.F_below F0.out.1 ST.out) (And.intro (blk_below F0.out.2.1 ST.out) F0.out.2.2))
        refine hK _ _ ⟨⟨_, HV3.out⟩, rfl⟩ ?_
        clear hK K ST
        refine hall1 (i := 11) (by as_aux_lemma => kernel_rfl) (by rfl) (fun K hK => ?_)
        go_simp
        obtain ⟨v4, hv⟩ : ∃ x, v3.alloc (Obj.cells #[.string ⟨#[97]⟩, .int .i64 0, .int .i64 1, .int .i64 2, .slice (some ⟨a0, 0, none⟩) 1 c0, .slice E0 0 e0, .string ⟨#[98]⟩, .int .i64 0, .int .i64 2, .int .i64 2, .slice (some ⟨g4, 0, none⟩) 2 2, .slice none 0 0, .string ⟨#[111]⟩, .int .i64 1, .int .i64 3, .int .i64 2, .slice (some ⟨a1, 0, none⟩) 1 c1, .slice A2 0 c2, .string ⟨#[99]⟩, .int .i64 2, .int .i64 4, .int .i64 2, .slice (some ⟨b1, 0, none⟩) 1 d1, .slice B2 0 d2] 50) = x := ⟨_, rfl⟩
        rw [hv]
        obtain ⟨gR, hg⟩ : ∃ x, v3.heap.size = x := ⟨_, rfl⟩
        rw [hg]
        have F11 : Aside0 (v4.heap[gR]? = some (.cells #[.string ⟨#[97]⟩, .int .i64 0, .int .i64 1, .int .i64 2, .slice (some ⟨a0, 0, none⟩) 1 c0, .slice E0 0 e0, .string ⟨#[98]⟩, .int .i64 0, .int .i64 2, .int .i64 2, .slice (some ⟨g4, 0, none⟩) 2 2, .slice none 0 0, .string ⟨#[111]⟩, .int .i64 1, .int .i64 3, .int .i64 2, .slice (some ⟨a1, 0, none⟩) 1 c1, .slice A2 0 c2, .string ⟨#[99]⟩, .int .i64 2, .int .i64 4, .int .i64 2, .slice (some ⟨b1, 0, none⟩) 1 d1, .slice B2 0 d2] 50 (0, 0))) := ⟨by rw [← hv, ← hg]; exact blk_new _ _⟩
        have GW11 : Aside0 (W.heap.size < gR) := ⟨by have h1 := HW3.out; have h2 := HV3.out.size; omega⟩
        have ST : Aside0 (Below v3.heap.size v3 v4) := ⟨hv ▸ below1 _ _⟩
        have HV4 : Aside0 (Below w3.heap.size w3 v4) := ⟨join_below HV3.out ST.out⟩
        clear hv hg
        have F4 := Aside0.mk (blk_below F4.out ST.out)
        have G0 := Aside0.mk (Nat.lt_of_lt_of_le G0.out ST.out.size)
        have F0 := Aside0.mk (And.intro (Kd.F_below F0.out.1 ST.out) (And.intro (blk_below F0.out.2.1 ST.out) F0.out.2.2))
        have F13 := Aside0.mk (blk_below F13.out ST.out)
        refine hK _ _ ⟨⟨_, HV4.out⟩, rfl⟩ ?_
        clear hK K ST
        ((refine takeQ (i := 12) (by rfl) (by as_aux_lemma => kernel_rfl) (by as_aux_lemma => kernel_rfl) (by as_aux_lemma => kernel_rfl) ?_ ?_ ?_); (focus exact fun _ _ _ _ h => h); (focus exact ⟨⟨_, HV4.out⟩, rfl⟩); intro K hK; go_simp; (with_reducible refine hK _ ?_); clear hK K)
        have ne4 : g4 ≠ g13 := fun e => by have h := F4.out; rw [e, F13.out] at h; simp at h
        have neR : gR ≠ g13 := fun e => by have h := F11.out; rw [e, F13.out] at h; simp at h
        have y0 : World.cell? v4 ⟨g13, 0, none⟩ = some (.slice none 0 0) := (blk_cell F13.out 0).trans rfl
        have y1 : World.cell? v4 ⟨g13, 1, none⟩ = some (.slice none 0 0) := (blk_cell F13.out 1).trans rfl
        have z0 := blk_frozen F13.out 0
        have z1 := blk_frozen F13.out 1
        have hp1 := blk_put F13.out 0 (.slice (some ⟨gR, 0, none⟩) 4 4) rfl
        have y2 : (World.setCell v4 ⟨g13, 0, none⟩ (.slice (some ⟨gR, 0, none⟩) 4 4)).cell? ⟨g13, 1, none⟩ = some (.slice none 0 0) := (blk_cell hp1 1).trans rfl
        have z2 := blk_frozen hp1 1
        have hp2 := blk_put hp1 1 (.slice none 0 0) rfl
        obtain ⟨uf, huf⟩ : ∃ x, (World.setCell v4 ⟨g13, 0, none⟩ (.slice (some ⟨gR, 0, none⟩) 4 4)).setCell ⟨g13, 1, none⟩ (.slice none 0 0) = x := ⟨_, rfl⟩
        have HBF : Aside0 (Below w3.heap.size w3 uf) := ⟨huf ▸ (HV4.out.setCell HGE.out _).setCell HGE.out _⟩
        have f11 := blk_far (p := ⟨g13, 1, none⟩) (blk_far (p := ⟨g13, 0, none⟩) F11.out neR (.slice (some ⟨gR, 0, none⟩) 4 4)) neR (.slice none 0 0)
        have f4 := blk_far (p := ⟨g13, 1, none⟩) (blk_far (p := ⟨g13, 0, none⟩) F4.out ne4 (.slice (some ⟨gR, 0, none⟩) 4 4)) ne4 (.slice none 0 0)
        have f0 := Kd.F_far (p := ⟨g13, 1, none⟩) (Kd.F_far (p := ⟨g13, 0, none⟩) F0.out.1 (fun k hk => by rw [hk]; exact FN.out) (.slice (some ⟨gR, 0, none⟩) 4 4)) (fun k hk => by rw [hk]; exact FN.out) (.slice none 0 0)
        have fx := blk_far (p := ⟨g13, 1, none⟩) (blk_far (p := ⟨g13, 0, none⟩) F0.out.2.1 FN.out (.slice (some ⟨gR, 0, none⟩) 4 4)) FN.out (.slice none 0 0)
        rw [huf] at hp2 f11 f4 f0 fx
        have HF := Aside0.mk hp2
        have HX := Aside0.mk (And.intro f11 (And.intro f4 (And.intro f0 (And.intro fx F0.out.2.2))))
        have NE := Aside0.mk (And.intro neR ne4)
        clear hp2 f11 f4 f0 fx ne4 neR hp1
        refine hall1 (i := 14) (by as_aux_lemma => kernel_rfl) (by rfl) (fun K hK => ?_)
        go_simp
        clear huf y0 y1 y2 z0 z1 z2 F0 F4 F11 F13
        refine hK _ _ ⟨⟨_, HBF.out⟩, rfl⟩ ?_
        clear hK K
        refine wpAnyH_done (by as_aux_lemma => kernel_rfl) ?_ _
        go_wp2
        go_meet
        case rel =>
         have hx := HX.out
         have BB := join_below HB3.out HBF.out
         have c4 := blk_below (blk_below H1.out.2.2.1 HB12.out) BB
         have c5 := blk_below H2.out.2.2.1 BB
         have l1 := blk_lt (blk_below (blk_below H1.out.2.2.1 HB12.out) HB3.out)
         have l2 := blk_lt (blk_below H2.out.2.2.1 HB3.out)
         have lg := HGE.out
         exact ⟨g13, rfl, ⟨⟨⟨gR, HF.out, made_rowP hx.1 (range_new hx.2.1) hx.2.2.2.2.2 hx.2.2.1 (fun _ => re_none hx.2.2.2.2.1) H1.out.1 (Kd.F_below (Kd.F_below H1.out.2.1 HB12.out) BB) (fun _ => re_none H1.out.2.2.2) H2.out.1 (Kd.F_below H2.out.2.1 BB) (fun _ => re_none H2.out.2.2.2) (Nat.le_of_lt GW11.out) ⟨GW11.out, NE.out.1⟩ ⟨⟨GW.out, FN.out⟩, ne_type hx.2.2.2.1 hx.1 (by decide)⟩ ⟨⟨N1.out, by omega⟩, ne_type c4 hx.1 (by decide)⟩ ⟨⟨N2.out, by omega⟩, ne_type c5 hx.1 (by decide)⟩ ⟨⟨GW4.out, NE.out.2⟩, ne_type hx.2.1 hx.1 (by decide)⟩⟩, HGE.out, HBF.out⟩⟩⟩
    · go_simp
      obtain ⟨v2, hv⟩ : ∃ x, v1.alloc (Obj.cells #[.slice none 0 0, .slice none 0 0] 26) = x := ⟨_, rfl⟩
      rw [hv]
      obtain ⟨g13, hg⟩ : ∃ x, v1.heap.size = x := ⟨_, rfl⟩
      rw [hg]
      have F13 : Aside0 (v2.heap[g13]? = some (.cells #[.slice none 0 0, .slice none 0 0] 26 (0, 0))) := ⟨by rw [← hv, ← hg]; exact blk_new _ _⟩
      have GW13 : Aside0 (W.heap.size < g13) := ⟨by have h1 := HW3.out; have h2 := HV1.out.size; omega⟩
      have ST : Aside0 (Below v1.heap.size v1 v2) := ⟨hv ▸ below1 _ _⟩
      have HV2 : Aside0 (Below w3.heap.size w3 v2) := ⟨join_below HV1.out ST.out⟩
      have HGE : Aside0 (w3.heap.size ≤ g13) := ⟨hg ▸ HV1.out.size⟩
      clear hv hg
      have F4 := Aside0.mk (blk_below F4.out ST.out)
      refine hK _ _ ⟨⟨_, HV2.out⟩, rfl⟩ ?_
      clear hK K ST
      refine hall1 (i := 0) (by as_aux_lemma => kernel_rfl) (by rfl) (fun K hK => ?_)
      go_simp
      refine (one_any 97 _).mono ?_
      rintro e v3 ⟨a0, c0, E0, e0, X0, rfl, f1, f2, fX, f3, f4, f5, hb⟩
      have FN : Aside0 (a0 ≠ g13) := ⟨by have := blk_lt F13.out; omega⟩
      have G0 := Aside0.mk f5
      have GW : Aside0 (W.heap.size < a0) := ⟨by have h1 := HW3.out; have h2 := HV2.out.size; omega⟩
      have ST := Aside0.mk hb
      have HV3 : Aside0 (Below w3.heap.size w3 v3) := ⟨join_below HV2.out hb⟩
      have F0 := Aside0.mk (And.intro f2 (And.intro fX (And.intro f3 f1)))
      clear f1 f2 f3 f4 f5 fX hb
      have F4 := Aside0.mk (blk_below F4.out ST.out)
      have F13 := Aside0.mk (blk_below F13.out ST.out)
      refine hK _ _ ⟨⟨_, HV3.out⟩, rfl⟩ ?_
      clear hK K ST
      ((refine takeQ (i := 1) (by rfl) (by as_aux_lemma => kernel_rfl) (by as_aux_lemma => kernel_rfl) (by as_aux_lemma => kernel_rfl) ?_ ?_ ?_); (focus exact fun _ _ _ _ h => h); (focus exact ⟨⟨_, HV3.out⟩, rfl⟩); intro K hK; go_simp; (with_reducible refine hK _ ?_); clear hK K)
      refine hall1 (i := 11) (by as_aux_lemma => kernel_rfl) (by rfl) (fun K hK => ?_)
      go_simp
      obtain ⟨v4, hv⟩ : ∃ x, v3.alloc (Obj.cells #[.string ⟨#[97]⟩, .int .i64 0, .int .i64 1, .int .i64 2, .slice (some ⟨a0, 0, none⟩) 1 c0, .slice E0 0 e0, .string ⟨#[98]⟩, .int .i64 0, .int .i64 2, .int .i64 2, .slice (some ⟨g4, 0, none⟩) 2 2, .slice none 0 0, .string ⟨#[111]⟩, .int .i64 1, .int .i64 3, .int .i64 2, .slice (some ⟨a1, 0, none⟩) 1 c1, .slice A2 0 c2, .string ⟨#[99]⟩, .int .i64 2, .int .i64 4, .int .i64 2, .slice (some ⟨b1, 0, none⟩) 1 d1, .slice B2 0 d2] 50) = x := ⟨_, rfl⟩
      rw [hv]
      obtain ⟨gR, hg⟩ : ∃ x, v3.heap.size = x := ⟨_, rfl⟩
      rw [hg]
      have F11 : Aside0 (v4.heap[gR]? = some (.cells #[.string ⟨#[97]⟩, .int .i64 0, .int .i64 1, .int .i64 2, .slice (some ⟨a0, 0, none⟩) 1 c0, .slice E0 0 e0, .string ⟨#[98]⟩, .int .i64 0, .int .i64 2, .int .i64 2, .slice (some ⟨g4, 0, none⟩) 2 2, .slice none 0 0, .string ⟨#[111]⟩, .int .i64 1, .int .i64 3, .int .i64 2, .slice (some ⟨a1, 0, none⟩) 1 c1, .slice A2 0 c2, .string ⟨#[99]⟩, .int .i64 2, .int .i64 4, .int .i64 2, .slice (some ⟨b1, 0, none⟩) 1 d1, .slice B2 0 d2] 50 (0, 0))) := ⟨by rw [← hv, ← hg]; exact blk_new _ _⟩
      have GW11 : Aside0 (W.heap.size < gR) := ⟨by have h1 := HW3.out; have h2 := HV3.out.size; omega⟩
      have ST : Aside0 (Below v3.heap.size v3 v4) := ⟨hv ▸ below1 _ _⟩
      have HV4 : Aside0 (Below w3.heap.size w3 v4) := ⟨join_below HV3.out ST.out⟩
      clear hv hg
      have F4 := Aside0.mk (blk_below F4.out ST.out)
      have F13 := Aside0.mk (blk_below F13.out ST.out)
      have G0 := Aside0.mk (Nat.lt_of_lt_of_le G0.out ST.out.size)
      have F0 := Aside0.mk (And.intro (Kd.F_below F0.out.1 ST.out) (And.intro (blk_below F0.out.2.1 ST.out) F0.out.2.2))
      refine hK _ _ ⟨⟨_, HV4.out⟩, rfl⟩ ?_
      clear hK K ST
      ((refine takeQ (i := 12) (by rfl) (by as_aux_lemma => kernel_rfl) (by as_aux_lemma => kernel_rfl) (by as_aux_lemma => kernel_rfl) ?_ ?_ ?_); (focus exact fun _ _ _ _ h => h); (focus exact ⟨⟨_, HV4.out⟩, rfl⟩); intro K hK; go_simp; (with_reducible refine hK _ ?_); clear hK K)
      have ne4 : g4 ≠ g13 := fun e => by have h := F4.out; rw [e, F13.out] at h; simp at h
      have neR : gR ≠ g13 := fun e => by have h := F11.out; rw [e, F13.out] at h; simp at h
      have y0 : World.cell? v4 ⟨g13, 0, none⟩ = some (.slice none 0 0) := (blk_cell F13.out 0).trans rfl
      have y1 : World.cell? v4 ⟨g13, 1, none⟩ = some (.slice none 0 0) := (blk_cell F13.out 1).trans rfl
      have z0 := blk_frozen F13.out 0
      have z1 := blk_frozen F13.out 1
      have hp1 := blk_put F13.out 0 (.slice (some ⟨gR, 0, none⟩) 4 4) rfl
      have y2 : (World.setCell v4 ⟨g13, 0, none⟩ (.slice (some ⟨gR, 0, none⟩) 4 4)).cell? ⟨g13, 1, none⟩ = some (.slice none 0 0) := (blk_cell hp1 1).trans rfl
      have z2 := blk_frozen hp1 1
      have hp2 := blk_put hp1 1 (.slice none 0 0) rfl
      obtain ⟨uf, huf⟩ : ∃ x, (World.setCell v4 ⟨g13, 0, none⟩ (.slice (some ⟨gR, 0, none⟩) 4 4)).setCell ⟨g13, 1, none⟩ (.slice none 0 0) = x := ⟨_, rfl⟩
      have HBF : Aside0 (Below w3.heap.size w3 uf) := ⟨huf ▸ (HV4.out.setCell HGE.out _).setCell HGE.out _⟩
      have f11 := blk_far (p := ⟨g13, 1, none⟩) (blk_far (p := ⟨g13, 0, none⟩) F11.out neR (.slice (some ⟨gR, 0, none⟩) 4 4)) neR (.slice none 0 0)
      have f4 := blk_far (p := ⟨g13, 1, none⟩) (blk_far (p := ⟨g13, 0, none⟩) F4.out ne4 (.slice (some ⟨gR, 0, none⟩) 4 4)) ne4 (.slice none 0 0)
      have f0 := Kd.F_far (p := ⟨g13, 1, none⟩) (Kd.F_far (p := ⟨g13, 0, none⟩) F0.out.1 (fun k hk => by rw [hk]; exact FN.out) (.slice (some ⟨gR, 0, none⟩) 4 4)) (fun k hk => by rw [hk]; exact FN.out) (.slice none 0 0)
      have fx := blk_far (p := ⟨g13, 1, none⟩) (blk_far (p := ⟨g13, 0, none⟩) F0.out.2.1 FN.out (.slice (some ⟨gR, 0, none⟩) 4 4)) FN.out (.slice none 0 0)
      rw [huf] at hp2 f11 f4 f0 fx
      have HF := Aside0.mk hp2
      have HX := Aside0.mk (And.intro f11 (And.intro f4 (And.intro f0 (And.intro fx F0.out.2.2))))
      have NE := Aside0.mk (And.intro neR ne4)
      clear hp2 f11 f4 f0 fx ne4 neR hp1
      refine hall1 (i := 14) (by as_aux_lemma => kernel_rfl) (by rfl) (fun K hK => ?_)
      go_simp
      clear huf y0 y1 y2 z0 z1 z2 F0 F4 F11 F13
      refine hK _ _ ⟨⟨_, HBF.out⟩, rfl⟩ ?_
      clear hK K
      refine wpAnyH_done (by as_aux_lemma => kernel_rfl) ?_ _
      go_wp2
      go_meet
      case rel =>
       have hx := HX.out
       have BB := join_below HB3.out HBF.out
       have c4 := blk_below (blk_below H1.out.2.2.1 HB12.out) BB
       have c5 := blk_below H2.out.2.2.1 BB
       have l1 := blk_lt (blk_below (blk_below H1.out.2.2.1 HB12.out) HB3.out)
       have l2 := blk_lt (blk_below H2.out.2.2.1 HB3.out)
       have lg := HGE.out
       exact ⟨g13, rfl, ⟨⟨⟨gR, HF.out, made_rowP hx.1 (range_new hx.2.1) hx.2.2.2.2.2 hx.2.2.1 (fun _ => re_none hx.2.2.2.2.1) H1.out.1 (Kd.F_below (Kd.F_below H1.out.2.1 HB12.out) BB) (fun _ => re_none H1.out.2.2.2) H2.out.1 (Kd.F_below H2.out.2.1 BB) (fun _ => re_none H2.out.2.2.2) (Nat.le_of_lt GW11.out) ⟨GW11.out, NE.out.1⟩ ⟨⟨GW.out, FN.out⟩, ne_type hx.2.2.2.1 hx.1 (by decide)⟩ ⟨⟨N1.out, by omega⟩, ne_type c4 hx.1 (by decide)⟩ ⟨⟨N2.out, by omega⟩, ne_type c5 hx.1 (by decide)⟩ ⟨⟨GW4.out, NE.out.2⟩, ne_type hx.2.1 hx.1 (by decide)⟩⟩, HGE.out, HBF.out⟩⟩⟩
  · go_simp
    obtain ⟨v1, hv⟩ : ∃ x, wd.alloc (Obj.cells #[.slice none 0 0, .slice none 0 0] 26) = x := ⟨_, rfl⟩
    rw [hv]
    obtain ⟨g13, hg⟩ : ∃ x, wd.heap.size = x := ⟨_, rfl⟩
    rw [hg]
    have F13 : Aside0 (v1.heap[g13]? = some (.cells #[.slice none 0 0, .slice none 0 0] 26 (0, 0))) := ⟨by rw [← hv, ← hg]; exact blk_new _ _⟩
    have GW13 : Aside0 (W.heap.size < g13) := ⟨by have h1 := HW3.out; have h2 := HLAT.out.size; omega⟩
    have ST : Aside0 (Below wd.heap.size wd v1) := ⟨hv ▸ below1 _ _⟩
    have HV1 : Aside0 (Below w3.heap.size w3 v1) := ⟨join_below HLAT.out ST.out⟩
    have HGE : Aside0 (w3.heap.size ≤ g13) := ⟨hg ▸ HLAT.out.size⟩
    clear hv hg
    refine hK _ _ ⟨⟨_, HV1.out⟩, rfl⟩ ?_
    clear hK K ST
    refine hall2 (i := 0) (j := 4) (by as_aux_lemma => kernel_rfl) (by rfl) (by rfl) (fun K hK => ?_) (fun K hK => ?_)
    · go_simp
      refine (one_any 97 _).mono ?_
      rintro e v2 ⟨a0, c0, E0, e0, X0, rfl, f1, f2, fX, f3, f4, f5, hb⟩
      have FN : Aside0 (a0 ≠ g13) := ⟨by have := blk_lt F13.out; omega⟩
      have G0 := Aside0.mk f5
      have GW : Aside0 (W.heap.size < a0) := ⟨by have h1 := HW3.out; have h2 := HV1.out.size; omega⟩
      have ST := Aside0.mk hb
      have HV2 : Aside0 (Below w3.heap.size w3 v2) := ⟨join_below HV1.out hb⟩
      have F0 := Aside0.mk (And.intro f2 (And.intro fX (And.intro f3 f1)))
      clear f1 f2 f3 f4 f5 fX hb
      have F13 := Aside0.mk (blk_below F13.out ST.out)
      refine hK _ _ ⟨⟨_, HV2.out⟩, rfl⟩ ?_
      clear hK K ST
      ((refine takeQ (i := 1) (by rfl) (by as_aux_lemma => kernel_rfl) (by as_aux_lemma => kernel_rfl) (by as_aux_lemma => kernel_rfl) ?_ ?_ ?_); (focus exact fun _ _ _ _ h => h); (focus exact ⟨⟨_, HV2.out⟩, rfl⟩); intro K hK; go_simp; (with_reducible refine hK _ ?_); clear hK K)
      refine hall1 (i := 4) (by as_aux_lemma => kernel_rfl) (by rfl) (fun K hK => ?_)
      go_simp
      obtain ⟨v3, hv⟩ : ∃ x, v2.alloc (Obj.cells #[.int .i32 10, .int .i32 10, .int .i32 98, .int .i32 98] 56) = x := ⟨_, rfl⟩
      rw [hv]
      obtain ⟨g4, hg⟩ : ∃ x, v2.heap.size = x := ⟨_, rfl⟩
      rw [hg]
      have F4 : Aside0 (v3.heap[g4]? = some (.cells #[.int .i32 10, .int .i32 10, .int .i32 98, .int .i32 98] 56 (0, 0))) := ⟨by rw [← hv, ← hg]; exact blk_new _ _⟩
      have GW4 : Aside0 (W.heap.size < g4) := ⟨by have h1 := HW3.out; have h2 := HV2.out.size; omega⟩
      have ST : Aside0 (Below v2.heap.size v2 v3) := ⟨hv ▸ below1 _ _⟩
      have HV3 : Aside0 (Below w3.heap.size w3 v3) := ⟨join_below HV2.out ST.out⟩
      clear hv hg
      have F13 := Aside0.mk (blk_below F13.out ST.out)
      have G0 := Aside0.mk (Nat.lt_of_lt_of_le G0.out ST.out.size)
      have F0 := Aside0.mk (And.intro (Kd.F_below F0.out.1 ST.out) (And.intro (blk_below F0.out.2.1 ST.out) F0.out.2.2))
      refine hK _ _ ⟨⟨_, HV3.out⟩, rfl⟩ ?_
      clear hK K ST
      ((refine takeQ (i := 5) (by rfl) (by as_aux_lemma => kernel_rfl) (by as_aux_lemma => kernel_rfl) (by as_aux_lemma => kernel_rfl) ?_ ?_ ?_); (focus exact fun _ _ _ _ h => h); (focus exact ⟨⟨_, HV3.out⟩, rfl⟩); intro K hK; go_simp; (with_reducible refine hK _ ?_); clear hK K)
      ((refine takeQ (i := 6) (by rfl) (by as_aux_lemma => kernel_rfl) (by as_aux_lemma => kernel_rfl) (by as_aux_lemma => kernel_rfl) ?_ ?_ ?_); (focus exact fun _ _ _ _ h => h); (focus exact ⟨⟨_, HV3.out⟩, rfl⟩); intro K hK; go_simp; (with_reducible refine hK _ ?_); clear hK K)
      refine hall1 (i := 11) (by as_aux_lemma => kernel_rfl) (by rfl) (fun K hK => ?_)
      go_simp
      obtain ⟨v4, hv⟩ : ∃ x, v3.alloc (Obj.cells #[.string ⟨#[97]⟩, .int .i64 0, .int .i64 1, .int .i64 2, .slice (some ⟨a0, 0, none⟩) 1 c0, .slice E0 0 e0, .string ⟨#[98]⟩, .int .i64 0, .int .i64 2, .int .i64 2, .slice (some ⟨g4, 0, none⟩) 2 2, .slice none 0 0, .string ⟨#[111]⟩, .int .i64 1, .int .i64 3, .int .i64 2, .slice (some ⟨a1, 0, none⟩) 1 c1, .slice A2 0 c2, .string ⟨#[99]⟩, .int .i64 2, .int .i64 4, .int .i64 2, .slice (some ⟨b1, 0, none⟩) 1 d1, .slice B2 0 d2] 50) = x := ⟨_, rfl⟩
      rw [hv]
      obtain ⟨gR, hg⟩ : ∃ x, v3.heap.size = x := ⟨_, rfl⟩
      rw [hg]
      have F11 : Aside0 (v4.heap[gR]? = some (.cells #[.string ⟨#[97]⟩, .int .i64 0, .int .i64 1, .int .i64 2, .slice (some ⟨a0, 0, none⟩) 1 c0, .slice E0 0 e0, .string ⟨#[98]⟩, .int .i64 0, .int .i64 2, .int .i64 2, .slice (some ⟨g4, 0, none⟩) 2 2, .slice none 0 0, .string ⟨#[111]⟩, .int .i64 1, .int .i64 3, .int .i64 2, .slice (some ⟨a1, 0, none⟩) 1 c1, .slice A2 0 c2, .string ⟨#[99]⟩, .int .i64 2, .int .i64 4, .int .i64 2, .slice (some ⟨b1, 0, none⟩) 1 d1, .slice B2 0 d2] 50 (0, 0))) := ⟨by rw [← hv, ← hg]; exact blk_new _ _⟩
      have GW11 : Aside0 (W.heap.size < gR) := ⟨by have h1 := HW3.out; have h2 := HV3.out.size; omega⟩
      have ST : Aside0 (Below v3.heap.size v3 v4) := ⟨hv ▸ below1 _ _⟩
      have HV4 : Aside0 (Below w3.heap.size w3 v4) := ⟨join_below HV3.out ST.out⟩
      clear hv hg
      have F13 := Aside0.mk (blk_below F13.out ST.out)
      have G0 := Aside0.mk (Nat.lt_of_lt_of_le G0.out ST.out.size)
      have F0 := Aside0.mk (And.intro (Kd.F_below F0.out.1 ST.out) (And.intro (blk_below F0.out.2.1 ST.out) F0.out.2.2))
      have F4 := Aside0.mk (blk_below F4.out ST.out)
      refine hK _ _ ⟨⟨_, HV4.out⟩, rfl⟩ ?_
      clear hK K ST
      ((refine takeQ (i := 12) (by rfl) (by as_aux_lemma => kernel_rfl) (by as_aux_lemma => kernel_rfl) (by as_aux_lemma => kernel_rfl) ?_ ?_ ?_); (focus exact fun _ _ _ _ h => h); (focus exact ⟨⟨_, HV4.out⟩, rfl⟩); intro K hK; go_simp; (with_reducible refine hK _ ?_); clear hK K)
      have ne4 : g4 ≠ g13 := fun e => by have h := F4.out; rw [e, F13.out] at h; simp at h
      have neR : gR ≠ g13 := fun e => by have h := F11.out; rw [e, F13.out] at h; simp at h
      have y0 : World.cell? v4 ⟨g13, 0, none⟩ = some (.slice none 0 0) := (blk_cell F13.out 0).trans rfl
      have y1 : World.cell? v4 ⟨g13, 1, none⟩ = some (.slice none 0 0) := (blk_cell F13.out 1).trans rfl
      have z0 := blk_frozen F13.out 0
      have z1 := blk_frozen F13.out 1
      have hp1 := blk_put F13.out 0 (.slice (some ⟨gR, 0, none⟩) 4 4) rfl
      have y2 : (World.setCell v4 ⟨g13, 0, none⟩ (.slice (some ⟨gR, 0, none⟩) 4 4)).cell? ⟨g13, 1, none⟩ = some (.slice none 0 0) := (blk_cell hp1 1).trans rfl
      have z2 := blk_frozen hp1 1
      have hp2 := blk_put hp1 1 (.slice none 0 0) rfl
      obtain ⟨uf, huf⟩ : ∃ x, (World.setCell v4 ⟨g13, 0, none⟩ (.slice (some ⟨gR, 0, none⟩) 4 4)).setCell ⟨g13, 1, none⟩ (.slice none 0 0) = x := ⟨_, rfl⟩
      have HBF : Aside0 (Below w3.heap.size w3 uf) := ⟨huf ▸ (HV4.out.setCell HGE.out _).setCell HGE.out _⟩
      have f11 := blk_far (p := ⟨g13, 1, none⟩) (blk_far (p := ⟨g13, 0, none⟩) F11.out neR (.slice (some ⟨gR, 0, none⟩) 4 4)) neR (.slice none 0 0)
      have f4 := blk_far (p := ⟨g13, 1, none⟩) (blk_far (p := ⟨g13, 0, none⟩) F4.out ne4 (.slice (some ⟨gR, 0, none⟩) 4 4)) ne4 (.slice none 0 0)
      have f0 := Kd.F_far (p := ⟨g13, 1, none⟩) (Kd.F_far (p := ⟨g13, 0, none⟩) F0.out.1 (fun k hk => by rw [hk]; exact FN.out) (.slice (some ⟨gR, 0, none⟩) 4 4)) (fun k hk => by rw [hk]; exact FN.out) (.slice none 0 0)
      have fx := blk_far (p := ⟨g13, 1, none⟩) (blk_far (p := ⟨g13, 0, none⟩) F0.out.2.1 FN.out (.slice (some ⟨gR, 0, none⟩) 4 4)) FN.out (.slice none 0 0)
      rw [huf] at hp2 f11 f4 f0 fx
      have HF := Aside0.mk hp2
      have HX := Aside0.mk (And.intro f11 (And.intro f4 (And.intro f0 (And.intro fx F0.out.2.2))))
      have NE := Aside0.mk (And.intro neR ne4)
      clear hp2 f11 f4 f0 fx ne4 neR hp1
      refine hall1 (i := 14) (by as_aux_lemma => kernel_rfl) (by rfl) (fun K hK => ?_)
      go_simp
      clear huf y0 y1 y2 z0 z1 z2 F0 F4 F11 F13
      refine hK _ _ ⟨⟨_, HBF.out⟩, rfl⟩ ?_
      clear hK K
      refine wpAnyH_done (by as_aux_lemma => kernel_rfl) ?_ _
      go_wp2
      go_meet
      case rel =>
       have hx := HX.out
       have BB := join_below HB3.out HBF.out
       have c4 := blk_below (blk_below H1.out.2.2.1 HB12.out) BB
       have c5 := blk_below H2.out.2.2.1 BB
       have l1 := blk_lt (blk_below (blk_below H1.out.2.2.1 HB12.out) HB3.out)
       have l2 := blk_lt (blk_below H2.out.2.2.1 HB3.out)
       have lg := HGE.out
       exact ⟨g13, rfl, ⟨⟨⟨gR, HF.out, made_rowP hx.1 (range_new hx.2.1) hx.2.2.2.2.2 hx.2.2.1 (fun _ => re_none hx.2.2.2.2.1) H1.out.1 (Kd.F_below (Kd.F_below H1.out.2.1 HB12.out) BB) (fun _ => re_none H1.out.2.2.2) H2.out.1 (Kd.F_below H2.out.2.1 BB) (fun _ => re_none H2.out.2.2.2) (Nat.le_of_lt GW11.out) ⟨GW11.out, NE.out.1⟩ ⟨⟨GW.out, FN.out⟩, ne_type hx.2.2.2.1 hx.1 (by decide)⟩ ⟨⟨N1.out, by omega⟩, ne_type c4 hx.1 (by decide)⟩ ⟨⟨N2.out, by omega⟩, ne_type c5 hx.1 (by decide)⟩ ⟨⟨GW4.out, NE.out.2⟩, ne_type hx.2.1 hx.1 (by decide)⟩⟩, HGE.out, HBF.out⟩⟩⟩
    · go_simp
      obtain ⟨v2, hv⟩ : ∃ x, v1.alloc (Obj.cells #[.int .i32 10, .int .i32 10, .int .i32 98, .int .i32 98] 56) = x := ⟨_, rfl⟩
      rw [hv]
      obtain ⟨g4, hg⟩ : ∃ x, v1.heap.size = x := ⟨_, rfl⟩
      rw [hg]
      have F4 : Aside0 (v2.heap[g4]? = some (.cells #[.int .i32 10, .int .i32 10, .int .i32 98, .int .i32 98] 56 (0, 0))) := ⟨by rw [← hv, ← hg]; exact blk_new _ _⟩
      have GW4 : Aside0 (W.heap.size < g4) := ⟨by have h1 := HW3.out; have h2 := HV1.out.size; omega⟩
      have ST : Aside0 (Below v1.heap.size v1 v2) := ⟨hv ▸ below1 _ _⟩
      have HV2 : Aside0 (Below w3.heap.size w3 v2) := ⟨join_below HV1.out ST.out⟩
      clear hv hg
      have F13 := Aside0.mk (blk_below F13.out ST.out)
      refine hK _ _ ⟨⟨_, HV2.out⟩, rfl⟩ ?_
      clear hK K ST
      ((refine takeQ (i := 5) (by rfl) (by as_aux_lemma => kernel_rfl) (by as_aux_lemma => kernel_rfl) (by as_aux_lemma => kernel_rfl) ?_ ?_ ?_); (focus exact fun _ _ _ _ h => h); (focus exact ⟨⟨_, HV2.out⟩, rfl⟩); intro K hK; go_simp; (with_reducible refine hK _ ?_); clear hK K)
      ((refine takeQ (i := 6) (by rfl) (by as_aux_lemma => kernel_rfl) (by as_aux_lemma => kernel_rfl) (by as_aux_lemma => kernel_rfl) ?_ ?_ ?_); (focus exact fun _ _ _ _ h => h); (focus exact ⟨⟨_, HV2.out⟩, rfl⟩); intro K hK; go_simp; (with_reducible refine hK _ ?_); clear hK K)
      refine hall1 (i := 0) (by as_aux_lemma => kernel_rfl) (by rfl) (fun K hK => ?_)
      go_simp
      refine (one_any 97 _).mono ?_
      rintro e v3 ⟨a0, c0, E0, e0, X0, rfl, f1, f2, fX, f3, f4, f5, hb⟩
      have FN : Aside0 (a0 ≠ g13) := ⟨by have := blk_lt F13.out; omega⟩
      have G0 := Aside0.mk f5
      have GW : Aside0 (W.heap.size < a0) := ⟨by have h1 := HW3.out; have h2 := HV2.out.size; omega⟩
      have ST := Aside0.mk hb
      have HV3 : Aside0 (Below w3.heap.size w3 v3) := ⟨join_below HV2.out hb⟩
      have F0 := Aside0.mk (And.intro f2 (And.intro fX (And.intro f3 f1)))
      clear f1 f2 f3 f4 f5 fX hb
      have F13 := Aside0.mk (blk_below F13.out ST.out)
      have F4 := Aside0.mk (blk_below F4.out ST.out)
      refine hK _ _ ⟨⟨_, HV3.out⟩, rfl⟩ ?_
      clear hK K ST
      ((refine takeQ (i := 1) (by rfl) (by as_aux_lemma => kernel_rfl) (by as_aux_lemma => kernel_rfl) (by as_aux_lemma => kernel_rfl) ?_ ?_ ?_); (focus exact fun _ _ _ _ h => h); (focus exact ⟨⟨_, HV3.out⟩, rfl⟩); intro K hK; go_simp; (with_reducible refine hK _ ?_); clear hK K)
      refine hall1 (i := 11) (by as_aux_lemma => kernel_rfl) (by rfl) (fun K hK => ?_)
      go_simp
      obtain ⟨v4, hv⟩ : ∃ x, v3.alloc (Obj.cells #[.string ⟨#[97]⟩, .int .i64 0, .int .i64 1, .int .i64 2, .slice (some ⟨a0, 0, none⟩) 1 c0, .slice E0 0 e0, .string ⟨#[98]⟩, .int .i64 0, .int .i64 2, .int .i64 2, .slice (some ⟨g4, 0, none⟩) 2 2, .slice none 0 0, .string ⟨#[111]⟩, .int .i64 1, .int .i64 3, .int .i64 2, .slice (some ⟨a1, 0, none⟩) 1 c1, .slice A2 0 c2, .string ⟨#[99]⟩, .int .i64 2, .int .i64 4, .int .i64 2, .slice (some ⟨b1, 0, none⟩) 1 d1, .slice B2 0 d2] 50) = x := ⟨_, rfl⟩
      rw [hv]
      obtain ⟨gR, hg⟩ : ∃ x, v3.heap.size = x := ⟨_, rfl⟩
      rw [hg]
      have F11 : Aside0 (v4.heap[gR]? = some (.cells #[.string ⟨#[97]⟩, .int .i64 0, .int .i64 1, .int .i64 2, .slice (some ⟨a0, 0, none⟩) 1 c0, .slice E0 0 e0, .string ⟨#[98]⟩, .int .i64 0, .int .i64 2, .int .i64 2, .slice (some ⟨g4, 0, none⟩) 2 2, .slice none 0 0, .string ⟨#[111]⟩, .int .i64 1, .int .i64 3, .int .i64 2, .slice (some ⟨a1, 0, none⟩) 1 c1, .slice A2 0 c2, .string ⟨#[99]⟩, .int .i64 2, .int .i64 4, .int .i64 2, .slice (some ⟨b1, 0, none⟩) 1 d1, .slice B2 0 d2] 50 (0, 0))) := ⟨by rw [← hv, ← hg]; exact blk_new _ _⟩
      have GW11 : Aside0 (W.heap.size < gR) := ⟨by have h1 := HW3.out; have h2 := HV3.out.size; omega⟩
      have ST : Aside0 (Below v3.heap.size v3 v4) := ⟨hv ▸ below1 _ _⟩
      have HV4 : Aside0 (Below w3.heap.size w3 v4) := ⟨join_below HV3.out ST.out⟩
      clear hv hg
      have F13 := Aside0.mk (blk_below F13.out ST.out)
      have F4 := Aside0.mk (blk_below F4.out ST.out)
      have G0 := Aside0.mk (Nat.lt_of_lt_of_le G0.out ST.out.size)
      have F0 := Aside0.mk (And.intro (Kd.F_below F0.out.1 ST.out) (And.intro (blk_below F0.out.2.1 ST.out) F0.out.2.2))
      refine hK _ _ ⟨⟨_, HV4.out⟩, rfl⟩ ?_
      clear hK K ST
      ((refine takeQ (i := 12) (by rfl) (by as_aux_lemma => kernel_rfl) (by as_aux_lemma => kernel_rfl) (by as_aux_lemma => kernel_rfl) ?_ ?_ ?_); (focus exact fun _ _ _ _ h => h); (focus exact ⟨⟨_, HV4.out⟩, rfl⟩); intro K hK; go_simp; (with_reducible refine hK _ ?_); clear hK K)
      have ne4 : g4 ≠ g13 := fun e => by have h := F4.out; rw [e, F13.out] at h; simp at h
      have neR : gR ≠ g13 := fun e => by have h := F11.out; rw [e, F13.out] at h; simp at h
      have y0 : World.cell? v4 ⟨g13, 0, none⟩ = some (.slice none 0 0) := (blk_cell F13.out 0).trans rfl
      have y1 : World.cell? v4 ⟨g13, 1, none⟩ = some (.slice none 0 0) := (blk_cell F13.out 1).trans rfl
      have z0 := blk_frozen F13.out 0
      have z1 := blk_frozen F13.out 1
      have hp1 := blk_put F13.out 0 (.slice (some ⟨gR, 0, none⟩) 4 4) rfl
      have y2 : (World.setCell v4 ⟨g13, 0, none⟩ (.slice (some ⟨gR, 0, none⟩) 4 4)).cell? ⟨g13, 1, none⟩ = some (.slice none 0 0) := (blk_cell hp1 1).trans rfl
      have z2 := blk_frozen hp1 1
      have hp2 := blk_put hp1 1 (.slice none 0 0) rfl
      obtain ⟨uf, huf⟩ : ∃ x, (World.setCell v4 ⟨g13, 0, none⟩ (.slice (some ⟨gR, 0, none⟩) 4 4)).setCell ⟨g13, 1, none⟩ (.slice none 0 0) = x := ⟨_, rfl⟩
      have HBF : Aside0 (Below w3.heap.size w3 uf) := ⟨huf ▸ (HV4.out.setCell HGE.out _).setCell HGE.out _⟩
      have f11 := blk_far (p := ⟨g13, 1, none⟩) (blk_far (p := ⟨g13, 0, none⟩) F11.out neR (.slice (some ⟨gR, 0, none⟩) 4 4)) neR (.slice none 0 0)
      have f4 := blk_far (p := ⟨g13, 1, none⟩) (blk_far (p := ⟨g13, 0, none⟩) F4.out ne4 (.slice (some ⟨gR, 0, none⟩) 4 4)) ne4 (.slice none 0 0)
      have f0 := Kd.F_far (p := ⟨g13, 1, none⟩) (Kd.F_far (p := ⟨g13, 0, none⟩) F0.out.1 (fun k hk => by rw [hk]; exact FN.out) (.slice (some ⟨gR, 0, none⟩) 4 4)) (fun k hk => by rw [hk]; exact FN.out) (.slice none 0 0)
      have fx := blk_far (p := ⟨g13, 1, none⟩) (blk_far (p := ⟨g13, 0, none⟩) F0.out.2.1 FN.out (.slice (some ⟨gR, 0, none⟩) 4 4)) FN.out (.slice none 0 0)
      rw [huf] at hp2 f11 f4 f0 fx
      have HF := Aside0.mk hp2
      have HX := Aside0.mk (And.intro f11 (And.intro f4 (And.intro f0 (And.intro fx F0.out.2.2))))
      have NE := Aside0.mk (And.intro neR ne4)
      clear hp2 f11 f4 f0 fx ne4 neR hp1
      refine hall1 (i := 14) (by as_aux_lemma => kernel_rfl) (by rfl) (fun K hK => ?_)
      go_simp
      clear huf y0 y1 y2 z0 z1 z2 F0 F4 F11 F13
      refine hK _ _ ⟨⟨_, HBF.out⟩, rfl⟩ ?_
      clear hK K
      refine wpAnyH_done (by as_aux_lemma => kernel_rfl) ?_ _
      go_wp2
      go_meet
      case rel =>
       have hx := HX.out
       have BB := join_below HB3.out HBF.out
       have c4 := blk_below (blk_below H1.out.2.2.1 HB12.out) BB
       have c5 := blk_below H2.out.2.2.1 BB
       have l1 := blk_lt (blk_below (blk_below H1.out.2.2.1 HB12.out) HB3.out)
       have l2 := blk_lt (blk_below H2.out.2.2.1 HB3.out)
       have lg := HGE.out
       exact ⟨g13, rfl, ⟨⟨⟨gR, HF.out, made_rowP hx.1 (range_new hx.2.1) hx.2.2.2.2.2 hx.2.2.1 (fun _ => re_none hx.2.2.2.2.1) H1.out.1 (Kd.F_below (Kd.F_below H1.out.2.1 HB12.out) BB) (fun _ => re_none H1.out.2.2.2) H2.out.1 (Kd.F_below H2.out.2.1 BB) (fun _ => re_none H2.out.2.2.2) (Nat.le_of_lt GW11.out) ⟨GW11.out, NE.out.1⟩ ⟨⟨GW.out, FN.out⟩, ne_type hx.2.2.2.1 hx.1 (by decide)⟩ ⟨⟨N1.out, by omega⟩, ne_type c4 hx.1 (by decide)⟩ ⟨⟨N2.out, by omega⟩, ne_type c5 hx.1 (by decide)⟩ ⟨⟨GW4.out, NE.out.2⟩, ne_type hx.2.1 hx.1 (by decide)⟩⟩, HGE.out, HBF.out⟩⟩⟩
 obtain ⟨gG, rfl, HG⟩ := hcut
 clear q0 q1 q2 r0 r1 r2
 go_upto_if 33 with (fail)
 obtain ⟨b6, hb6⟩ : ∃ x, wc.heap.size = x := ⟨_, rfl⟩
 obtain ⟨w4, hw4⟩ : ∃ x, (wc.alloc (Obj.cells #[.string ⟨#[111]⟩] 9)).alloc (Obj.cells #[.string ⟨#[99]⟩] 9) = x := ⟨_, rfl⟩
 have K6 : Aside0 (w4.heap[b6]? = some (.cells #[.string ⟨#[111]⟩] 9 (0, 0))) := ⟨by rw [← hw4, ← hb6]; exact blk_alloc (blk_new _ _) _⟩
 have K7 : Aside0 (w4.heap[b6 + 1]? = some (.cells #[.string ⟨#[99]⟩] 9 (0, 0))) := ⟨by rw [← hw4, ← hb6]; exact second wc _ _ _⟩
 have HB4 : Aside0 (Below wc.heap.size wc w4) := ⟨hw4 ▸ below_alloc (below1 _ _) _⟩
 have HB6 : Aside0 (wc.heap.size = b6) := ⟨hb6⟩
 rw [hw4, hb6]
 clear hw4 hb6
 go_cut [6, 7] (fun v6 v7 w' => Aside0 (MadeH W w3 gG ls.length v6 v7 w'))
 case first =>
  have HGN := Aside0.mk HG.out.g
  obtain ⟨gR, hgb, hgn⟩ := HGN.out
  have HGN := Aside0.mk hgn
  have HGB0 := Aside0.mk hgb
  have HGB := Aside0.mk (blk_below hgb HB4.out)
  have HGL : Aside0 (gG < w4.heap.size) := ⟨blk_lt HGB.out⟩
  have HAB : Aside0 (a1 < w3.heap.size ∧ b1 < w3.heap.size) := ⟨blk_lt (blk_below (blk_below H1.out.2.2.1 HB12.out) HB3.out), blk_lt (blk_below H2.out.2.2.1 HB3.out)⟩
  clear hgb hgn
  by_cases h3 : 3 < ls.length
  · skip
    have e1 : decide (3 < (ls.length : Int)) = true := decide_eq_true (by omega)
    have H3 := Aside0.mk h3
    clear h3
    rw [e1]
    go_upto_region 5 with (fail)
    clear e1
    obtain ⟨wd, hwd⟩ : ∃ x, w4.drew = x := ⟨_, rfl⟩
    have HLW : Aside0 (Below w4.heap.size w4 wd) := ⟨hwd ▸ below_drew1 (Below.refl _ _)⟩
    refine Ord.region_L (S := fun w' => ∃ p : Later w4, w' = p.wx) (L := 15) (by as_aux_lemma => kernel_rfl) ?_
    rw [hwd]
    clear hwd
    have y0 : ∀ p : Later w4, p.wx.cell? ⟨gG, 0, none⟩ = some (.slice (some ⟨gR, 0, none⟩) 4 4) := fun p => cell_after p.below ((blk_cell HGB.out 0).trans rfl)
    have m0 := fun p : Later w4 => HQR.out.1 ⟨p.wx, join_below (join_below HG.out.b HB4.out) p.below⟩
    have m1 := fun p : Later w4 => HQR.out.2.1 ⟨p.wx, join_below (join_below HG.out.b HB4.out) p.below⟩
    have m2 := fun p : Later w4 => HQR.out.2.2.1 ⟨p.wx, join_below (join_below HG.out.b HB4.out) p.below⟩
    have m3 := fun p : Later w4 => HQR.out.2.2.2.1 ⟨p.wx, join_below (join_below HG.out.b HB4.out) p.below⟩
    have m4 := fun p : Later w4 => HQR.out.2.2.2.2.1 ⟨p.wx, join_below (join_below HG.out.b HB4.out) p.below⟩
    have m5 := fun p : Later w4 => HQR.out.2.2.2.2.2 ⟨p.wx, join_below (join_below HG.out.b HB4.out) p.below⟩
    simp only at m0 m1 m2 m3 m4 m5
    ((refine Ord.takeL (i := 0) (by rfl) (by as_aux_lemma => kernel_rfl) ?_ ?_ ?_); (focus first | exact fun _ _ _ _ h => h | exact fun _ _ _ _ h => HPQ.out _ _ _ _ (by rfl) h); (focus exact ⟨⟨_, HLW.out⟩, rfl⟩); intro K hK; go_simp; (with_reducible refine hK _ ?_); clear hK K)
    ((refine Ord.takeL (i := 1) (by rfl) (by as_aux_lemma => kernel_rfl) ?_ ?_ ?_); (focus first | exact fun _ _ _ _ h => h | exact fun _ _ _ _ h => HPQ.out _ _ _ _ (by rfl) h); (focus exact ⟨⟨_, HLW.out⟩, rfl⟩); intro K hK; go_simp; (with_reducible refine hK _ ?_); clear hK K)
    ((refine Ord.takeL (i := 2) (by rfl) (by as_aux_lemma => kernel_rfl) ?_ ?_ ?_); (focus first | exact fun _ _ _ _ h => h | exact fun _ _ _ _ h => HPQ.out _ _ _ _ (by rfl) h); (focus exact ⟨⟨_, HLW.out⟩, rfl⟩); intro K hK; go_simp; (with_reducible refine hK _ ?_); clear hK K)
    ((refine Ord.takeL (i := 3) (by rfl) (by as_aux_lemma => kernel_rfl) ?_ ?_ ?_); (focus first | exact fun _ _ _ _ h => h | exact fun _ _ _ _ h => HPQ.out _ _ _ _ (by rfl) h); (focus exact ⟨⟨_, HLW.out⟩, rfl⟩); intro K hK; go_simp; (with_reducible refine hK _ ?_); clear hK K)
    ((refine Ord.takeL (i := 7) (by rfl) (by as_aux_lemma => kernel_rfl) ?_ ?_ ?_); (focus first | exact fun _ _ _ _ h => h | exact fun _ _ _ _ h => HPQ.out _ _ _ _ (by rfl) h); (focus exact ⟨⟨_, HLW.out⟩, rfl⟩); intro K hK; go_simp; (with_reducible refine hK _ ?_); clear hK K)
    clear y0 m0 m1 m2 m3 m4 m5
    refine Ord.allL2 (i := 4) (j := 8) (by as_aux_lemma => kernel_rfl) (by rfl) (by rfl) (fun K hK => ?_) (fun K hK => ?_)
    · skip
      go_simp
      obtain ⟨u1, hv⟩ : ∃ x, wd.alloc (.cells #[.int .i64 2, .slice (some ⟨a1, 0, none⟩) 1 c1, .slice A2 0 c2, .int .i64 2, .slice (some ⟨a1, 0, none⟩) 1 c1, .slice A2 0 c2] 48) = x := ⟨_, rfl⟩
      rw [hv]
      obtain ⟨b4, hg⟩ : ∃ x, wd.heap.size = x := ⟨_, rfl⟩
      rw [hg]
      have K4 : Aside0 (u1.heap[b4]? = some (.cells #[.int .i64 2, .slice (some ⟨a1, 0, none⟩) 1 c1, .slice A2 0 c2, .int .i64 2, .slice (some ⟨a1, 0, none⟩) 1 c1, .slice A2 0 c2] 48 (0, 0))) := ⟨by rw [← hv, ← hg]; exact blk_new _ _⟩
      have ST : Aside0 (Below wd.heap.size wd u1) := ⟨hv ▸ below1 _ _⟩
      have G4 : Aside0 (w4.heap.size ≤ b4) := ⟨hg ▸ HLW.out.size⟩
      clear hv hg
      have HLW := Aside0.mk (join_below HLW.out ST.out)
      refine hK _ _ ⟨⟨_, HLW.out⟩, rfl⟩ ?_
      clear hK K ST
      ((refine Ord.takeL (i := 5) (by rfl) (by as_aux_lemma => kernel_rfl) ?_ ?_ ?_); (focus first | exact fun _ _ _ _ h => h | exact fun _ _ _ _ h => HPQ.out _ _ _ _ (by rfl) h); (focus exact ⟨⟨_, HLW.out⟩, rfl⟩); intro K hK; go_simp; (with_reducible refine hK _ ?_); clear hK K)
      ((refine Ord.takeL (i := 6) (by rfl) (by as_aux_lemma => kernel_rfl) ?_ ?_ ?_); (focus first | exact fun _ _ _ _ h => h | exact fun _ _ _ _ h => HPQ.out _ _ _ _ (by rfl) h); (focus exact ⟨⟨_, HLW.out⟩, rfl⟩); intro K hK; go_simp; (with_reducible refine hK _ ?_); clear hK K)
      refine Ord.allL1 (i := 8) (by as_aux_lemma => kernel_rfl) (by rfl) (fun K hK => ?_)
      go_simp
      refine (one_any 97 _).mono ?_
      rintro e u2 ⟨a0, c0, E0, e0, X0, rfl, f1, f2, fX, f3, f4, f5, hb⟩
      have ST := Aside0.mk hb
      have G8 : Aside0 (w4.heap.size ≤ a0) := ⟨Nat.le_trans HLW.out.size f4⟩
      have HLW := Aside0.mk (join_below HLW.out ST.out)
      have K4 := Aside0.mk (blk_below K4.out ST.out)
      have F0 := Aside0.mk f2
      have FE := Aside0.mk (And.intro f1 f3)
      clear f1 f2 fX f3 f4 f5 hb
      refine hK _ _ ⟨⟨_, HLW.out⟩, rfl⟩ ?_
      clear hK K ST
      refine Ord.allL1 (i := 9) (by as_aux_lemma => kernel_rfl) (by rfl) (fun K hK => ?_)
      go_simp
      obtain ⟨u3, hv⟩ : ∃ x, u2.alloc (.cells #[.int .i64 2, .slice (some ⟨b1, 0, none⟩) 1 d1, .slice B2 0 d2, .int .i64 2, .slice (some ⟨a0, 0, none⟩) 1 c0, .slice E0 0 e0] 48) = x := ⟨_, rfl⟩
      rw [hv]
      obtain ⟨b9, hg⟩ : ∃ x, u2.heap.size = x := ⟨_, rfl⟩
      rw [hg]
      have K9 : Aside0 (u3.heap[b9]? = some (.cells #[.int .i64 2, .slice (some ⟨b1, 0, none⟩) 1 d1, .slice B2 0 d2, .int .i64 2, .slice (some ⟨a0, 0, none⟩) 1 c0, .slice E0 0 e0] 48 (0, 0))) := ⟨by rw [← hv, ← hg]; exact blk_new _ _⟩
      have ST : Aside0 (Below u2.heap.size u2 u3) := ⟨hv ▸ below1 _ _⟩
      have G9 : Aside0 (w4.heap.size ≤ b9) := ⟨hg ▸ HLW.out.size⟩
      clear hv hg
      have HLW := Aside0.mk (join_below HLW.out ST.out)
      have K4 := Aside0.mk (blk_below K4.out ST.out)
      have F0 := Aside0.mk (Kd.F_below F0.out ST.out)
      refine hK _ _ ⟨⟨_, HLW.out⟩, rfl⟩ ?_
      clear hK K ST
      ((refine Ord.takeL (i := 10) (by rfl) (by as_aux_lemma => kernel_rfl) ?_ ?_ ?_); (focus first | exact fun _ _ _ _ h => h | exact fun _ _ _ _ h => HPQ.out _ _ _ _ (by rfl) h); (focus exact ⟨⟨_, HLW.out⟩, rfl⟩); intro K hK; go_simp; (with_reducible refine hK _ ?_); clear hK K)
      ((refine Ord.takeL (i := 11) (by rfl) (by as_aux_lemma => kernel_rfl) ?_ ?_ ?_); (focus first | exact fun _ _ _ _ h => h | exact fun _ _ _ _ h => HPQ.out _ _ _ _ (by rfl) h); (focus exact ⟨⟨_, HLW.out⟩, rfl⟩); intro K hK; go_simp; (with_reducible refine hK _ ?_); clear hK K)
      refine Ord.allL1 (i := 12) (by as_aux_lemma => kernel_rfl) (by rfl) (fun K hK => ?_)
      go_simp
      obtain ⟨u4, hv⟩ : ∃ x, u3.alloc (.cells #[.string ⟨#[112]⟩, .int .i64 1, .int .i64 5, .int .i64 3, .slice none 0 0, .slice (some ⟨b4, 0, none⟩) 2 2, .string ⟨#[113]⟩, .int .i64 2, .int .i64 6, .int .i64 3, .slice none 0 0, .slice (some ⟨b9, 0, none⟩) 2 2] 50) = x := ⟨_, rfl⟩
      rw [hv]
      obtain ⟨b12, hg⟩ : ∃ x, u3.heap.size = x := ⟨_, rfl⟩
      rw [hg]
      have K12 : Aside0 (u4.heap[b12]? = some (.cells #[.string ⟨#[112]⟩, .int .i64 1, .int .i64 5, .int .i64 3, .slice none 0 0, .slice (some ⟨b4, 0, none⟩) 2 2, .string ⟨#[113]⟩, .int .i64 2, .int .i64 6, .int .i64 3, .slice none 0 0, .slice (some ⟨b9, 0, none⟩) 2 2] 50 (0, 0))) := ⟨by rw [← hv, ← hg]; exact blk_new _ _⟩
      have ST : Aside0 (Below u3.heap.size u3 u4) := ⟨hv ▸ below1 _ _⟩
      have G12 : Aside0 (w4.heap.size ≤ b12) := ⟨hg ▸ HLW.out.size⟩
      clear hv hg
      have HLW := Aside0.mk (join_below HLW.out ST.out)
      have K4 := Aside0.mk (blk_below K4.out ST.out)
      have F0 := Aside0.mk (Kd.F_below F0.out ST.out)
      have K9 := Aside0.mk (blk_below K9.out ST.out)
      refine hK _ _ ⟨⟨_, HLW.out⟩, rfl⟩ ?_
      clear hK K ST
      have BB := Aside0.mk (join_below (join_below HG.out.b HB4.out) HLW.out)
      have R1 : Aside0 (Kd.F k48 u4 (fun q => q = b4 ∨ q = a1) (some ⟨b4, 0, none⟩) 2 [oneT 99, oneT 99]) := ⟨by have h := k48_mkF u4 (fun q => q = a1) (oneT 99) H1.out.1 (Kd.F_below (Kd.F_below H1.out.2.1 HB12.out) (join_below HB3.out BB.out)) (Nat.zero_le c2) (re_noneF (fun _ => re_none H1.out.2.2.2)); exact f_two K4.out rfl h h (fun q h => h) (fun q h => h)⟩
      have R2 : Aside0 (Kd.F k48 u4 (fun q => q = b9 ∨ (q = b1 ∨ q = a0)) (some ⟨b9, 0, none⟩) 2 [oneT 100, oneT 97]) := ⟨by have h := k48_mkF u4 (fun q => q = b1) (oneT 100) H2.out.1 (Kd.F_below H2.out.2.1 (join_below HB3.out BB.out)) (Nat.zero_le d2) (re_noneF (fun _ => re_none H2.out.2.2.2)); have h' := k48_mkF u4 (fun q => q = a0) (oneT 97) FE.out.1 F0.out (Nat.zero_le e0) (re_noneF (fun _ => re_none FE.out.2)); exact f_two K9.out rfl h h' (fun q h => Or.inl h) (fun q h => Or.inr h)⟩
      have T1 : Aside0 (Kd.FK kTok u4 (fun q => q = b4 ∨ q = a1) ⟨⟨#[112]⟩, 1, 5, ⟨3, [], [oneT 99, oneT 99]⟩⟩ [.string ⟨#[112]⟩, .int .i64 1, .int .i64 5, .int .i64 3, .slice none 0 0, .slice (some ⟨b4, 0, none⟩) 2 2]) := ⟨k50_mkF u4 _ ⟨⟨#[112]⟩, 1, 5, ⟨3, [], [oneT 99, oneT 99]⟩⟩ (show 0 ≤ 0 from Nat.le_refl _) (Kd.F_nil _ _ _) (show 2 ≤ 2 from Nat.le_refl _) R1.out⟩
      have T2 : Aside0 (Kd.FK kTok u4 (fun q => q = b9 ∨ (q = b1 ∨ q = a0)) ⟨⟨#[113]⟩, 2, 6, ⟨3, [], [oneT 100, oneT 97]⟩⟩ [.string ⟨#[113]⟩, .int .i64 2, .int .i64 6, .int .i64 3, .slice none 0 0, .slice (some ⟨b9, 0, none⟩) 2 2]) := ⟨k50_mkF u4 _ ⟨⟨#[113]⟩, 2, 6, ⟨3, [], [oneT 100, oneT 97]⟩⟩ (show 0 ≤ 0 from Nat.le_refl _) (Kd.F_nil _ _ _) (show 2 ≤ 2 from Nat.le_refl _) R2.out⟩
      have HPQ := Aside0.mk (f_two (okB := fun q => (q = b4 ∨ q = a1) ∨ (q = b9 ∨ (q = b1 ∨ q = a0))) K12.out rfl T1.out T2.out (fun q h => Or.inl h) (fun q h => Or.inr h))
      have HTT := Aside0.mk (Kd.N_F (Kd.N_below HGN.out (join_below HB4.out HLW.out)))
      refine Ord.allL1 (i := 13) (by as_aux_lemma => kernel_rfl) (by rfl) (fun K hK => ?_)
      refine n_append_full kTok (w0 := W) W.heap.size (by rfl) (.tmp 35) (.tmp 46) 23 50 (.agg #[.string ⟨#[]⟩, .int .i64 0, .int .i64 0, .int .i64 0, .slice none 0 0, .slice none 0 0]) 88 rfl Tryd.underlying23 (by as_aux_lemma => kernel_rfl) rfl (by decide) (by decide) madeT tokPQ ⟨gR, 0, none⟩ ⟨b12, 0, none⟩ 4 2 2 (fun k => W.heap.size < k ∧ k ≠ gG) (fun k => W.heap.size < k ∧ k ≠ gG) (fun q => q = b12 ∨ ((q = b4 ∨ q = a1) ∨ (q = b9 ∨ (q = b1 ∨ q = a0)))) rfl rfl HTT.out HPQ.out (by decide) (fun q h => h) (fun q hq => ?hX) (fun q hq => ?hF) (join_below (join_below HB2.out HB3.out) BB.out) ?hS (by decide) ?_
      case hX => have h1 := G4.out; have h2 := G8.out; have h3 := G9.out; have h4 := G12.out; have h5 := HGL.out; have h6 := N1.out; have h7 := N2.out; have h8 := HG.out.ge; have h9 := HAB.out; have h10 := HW3.out; rcases hq with hq | (hq | hq) | hq | hq | hq <;> (subst hq; exact ⟨by omega, by omega⟩)
      case hF => have h1 := HLW.out.size; have h5 := HGL.out; have h10 := HW3.out; have h8 := HG.out.ge; exact ⟨by omega, by omega⟩
      case hS => have h1 := HLW.out.size; have h5 := HGL.out; have h10 := HW3.out; have h8 := HG.out.ge; omega
      intro v9 w9 hN hB hgr hat
      obtain ⟨A9, c9, hv9⟩ := Kd.N_slice hN
      subst hv9
      have HN9 := Aside0.mk hN
      have HLW := Aside0.mk (join_below HLW.out (Below.grown (Below.refl _ _) hgr (Nat.le_refl _) (fun k hk => by cases hk)))
      clear hN hB hgr hat
      refine hK _ _ ⟨⟨_, HLW.out⟩, rfl⟩ ?_
      clear hK K
      ((refine Ord.takeL (i := 14) (by rfl) (by as_aux_lemma => kernel_rfl) ?_ ?_ ?_); (focus first | exact fun _ _ _ _ h => h | exact fun _ _ _ _ h => HPQ.out _ _ _ _ (by rfl) h); (focus exact ⟨⟨_, HLW.out⟩, rfl⟩); intro K hK; go_simp; (with_reducible refine hK _ ?_); clear hK K)
      have y0 : World.cell? w9 ⟨gG, 0, none⟩ = some (.slice (some ⟨gR, 0, none⟩) 4 4) := (blk_cell (blk_below HGB.out HLW.out) 0).trans rfl
      have z0 := blk_frozen (blk_below HGB.out HLW.out) 0
      refine Ord.lastL (by as_aux_lemma => kernel_rfl) (by rfl) (by decide) (fun K hK => ?_)
      go_simp
      clear y0 z0
      refine hK _ _ ?_
      clear hK K
      obtain ⟨w8, hw8⟩ : ∃ x, w9.setCell ⟨gG, 0, none⟩ (.slice A9 (madeT.length + tokPQ.length) c9) = x := ⟨_, rfl⟩
      have HB8 : Aside0 (Below w3.heap.size w3 w8) := ⟨hw8 ▸ (join_below (join_below HG.out.b HB4.out) HLW.out).setCell HG.out.ge _⟩
      have HK8 : Aside0 (w8.heap[gG]? = some (.cells #[.slice A9 (madeT.length + tokPQ.length) c9, .slice none 0 0] 26 (0, 0))) := ⟨hw8 ▸ blk_put (blk_below HGB.out HLW.out) 0 _ rfl⟩
      have HN8 : Aside0 (Kd.N kTok 50 w8 W.heap.size (fun k => W.heap.size < k ∧ k ≠ gG) (.slice A9 (madeT.length + tokPQ.length) c9) (madeT ++ tokPQ)) := ⟨hw8 ▸ Kd.N_far (p := ⟨gG, 0, none⟩) (List.length_append ▸ HN9.out) (fun q hq => hq.2) _⟩
      have HE8 : Aside0 (gG < w8.heap.size) := ⟨blk_lt HK8.out⟩
      rw [hw8]
      clear hw8
      refine wpAnyH_done (by as_aux_lemma => kernel_rfl) ?_ _
      go_wp2
      go_meet
      case rel => exact ⟨⟨⟨_, _, _, blk_below HK8.out (below_alloc (below1 _ _) _), by unfold madeTs; rw [if_pos H3.out]; exact Kd.N_below HN8.out (below_alloc (below1 _ _) _)⟩, HG.out.ge, by unfold madeCalls; rw [if_pos H3.out]; exact ⟨w8.heap.size, rfl, by have := HE8.out; have := HG.out.ge; have := HW3.out; omega, by have := HE8.out; omega, text_two (blk_alloc (blk_new _ _) _)⟩, by unfold madeRets; rw [if_pos H3.out]; exact ⟨w8.heap.size + 1, rfl, by have := HE8.out; have := HG.out.ge; have := HW3.out; omega, by have := HE8.out; omega, text_two (second w8 _ _ _)⟩, join_below HB8.out (below_alloc (below1 _ _) _)⟩⟩
    · skip
      go_simp
      refine (one_any 97 _).mono ?_
      rintro e u1 ⟨a0, c0, E0, e0, X0, rfl, f1, f2, fX, f3, f4, f5, hb⟩
      have ST := Aside0.mk hb
      have G8 : Aside0 (w4.heap.size ≤ a0) := ⟨Nat.le_trans HLW.out.size f4⟩
      have HLW := Aside0.mk (join_below HLW.out ST.out)
      have F0 := Aside0.mk f2
      have FE := Aside0.mk (And.intro f1 f3)
      clear f1 f2 fX f3 f4 f5 hb
      refine hK _ _ ⟨⟨_, HLW.out⟩, rfl⟩ ?_
      clear hK K ST
      refine Ord.allL2 (i := 4) (j := 9) (by as_aux_lemma => kernel_rfl) (by rfl) (by rfl) (fun K hK => ?_) (fun K hK => ?_)
      · skip
        go_simp
        obtain ⟨u2, hv⟩ : ∃ x, u1.alloc (.cells #[.int .i64 2, .slice (some ⟨a1, 0, none⟩) 1 c1, .slice A2 0 c2, .int .i64 2, .slice (some ⟨a1, 0, none⟩) 1 c1, .slice A2 0 c2] 48) = x := ⟨_, rfl⟩
        rw [hv]
        obtain ⟨b4, hg⟩ : ∃ x, u1.heap.size = x := ⟨_, rfl⟩
        rw [hg]
        have K4 : Aside0 (u2.heap[b4]? = some (.cells #[.int .i64 2, .slice (some ⟨a1, 0, none⟩) 1 c1, .slice A2 0 c2, .int .i64 2, .slice (some ⟨a1, 0, none⟩) 1 c1, .slice A2 0 c2] 48 (0, 0))) := ⟨by rw [← hv, ← hg]; exact blk_new _ _⟩
        have ST : Aside0 (Below u1.heap.size u1 u2) := ⟨hv ▸ below1 _ _⟩
        have G4 : Aside0 (w4.heap.size ≤ b4) := ⟨hg ▸ HLW.out.size⟩
        clear hv hg
        have HLW := Aside0.mk (join_below HLW.out ST.out)
        have F0 := Aside0.mk (Kd.F_below F0.out ST.out)
        refine hK _ _ ⟨⟨_, HLW.out⟩, rfl⟩ ?_
        clear hK K ST
        ((refine Ord.takeL (i := 5) (by rfl) (by as_aux_lemma => kernel_rfl) ?_ ?_ ?_); (focus first | exact fun _ _ _ _ h => h | exact fun _ _ _ _ h => HPQ.out _ _ _ _ (by rfl) h); (focus exact ⟨⟨_, HLW.out⟩, rfl⟩); intro K hK; go_simp; (with_reducible refine hK _ ?_); clear hK K)
        ((refine Ord.takeL (i := 6) (by rfl) (by as_aux_lemma => kernel_rfl) ?_ ?_ ?_); (focus first | exact fun _ _ _ _ h => h | exact fun _ _ _ _ h => HPQ.out _ _ _ _ (by rfl) h); (focus exact ⟨⟨_, HLW.out⟩, rfl⟩); intro K hK; go_simp; (with_reducible refine hK _ ?_); clear hK K)
        refine Ord.allL1 (i := 9) (by as_aux_lemma => kernel_rfl) (by rfl) (fun K hK => ?_)
        go_simp
        obtain ⟨u3, hv⟩ : ∃ x, u2.alloc (.cells #[.int .i64 2, .slice (some ⟨b1, 0, none⟩) 1 d1, .slice B2 0 d2, .int .i64 2, .slice (some ⟨a0, 0, none⟩) 1 c0, .slice E0 0 e0] 48) = x := ⟨_, rfl⟩
        rw [hv]
        obtain ⟨b9, hg⟩ : ∃ x, u2.heap.size = x := ⟨_, rfl⟩
        rw [hg]
        have K9 : Aside0 (u3.heap[b9]? = some (.cells #[.int .i64 2, .slice (some ⟨b1, 0, none⟩) 1 d1, .slice B2 0 d2, .int .i64 2, .slice (some ⟨a0, 0, none⟩) 1 c0, .slice E0 0 e0] 48 (0, 0))) := ⟨by rw [← hv, ← hg]; exact blk_new _ _⟩
        have ST : Aside0 (Below u2.heap.size u2 u3) := ⟨hv ▸ below1 _ _⟩
        have G9 : Aside0 (w4.heap.size ≤ b9) := ⟨hg ▸ HLW.out.size⟩
        clear hv hg
        have HLW := Aside0.mk (join_below HLW.out ST.out)
        have F0 := Aside0.mk (Kd.F_below F0.out ST.out)
        have K4 := Aside0.mk (blk_below K4.out ST.out)
        refine hK _ _ ⟨⟨_, HLW.out⟩, rfl⟩ ?_
        clear hK K ST
        ((refine Ord.takeL (i := 10) (by rfl) (by as_aux_lemma => kernel_rfl) ?_ ?_ ?_); (focus first | exact fun _ _ _ _ h => h | exact fun _ _ _ _ h => HPQ.out _ _ _ _ (by rfl) h); (focus exact ⟨⟨_, HLW.out⟩, rfl⟩); intro K hK; go_simp; (with_reducible refine hK _ ?_); clear hK K)
        ((refine Ord.takeL (i := 11) (by rfl) (by as_aux_lemma => kernel_rfl) ?_ ?_ ?_); (focus first | exact fun _ _ _ _ h => h | exact fun _ _ _ _ h => HPQ.out _ _ _ _ (by rfl) h); (focus exact ⟨⟨_, HLW.out⟩, rfl⟩); intro K hK; go_simp; (with_reducible refine hK _ ?_); clear hK K)
        refine Ord.allL1 (i := 12) (by as_aux_lemma => kernel_rfl) (by rfl) (fun K hK => ?_)
        go_simp
        obtain ⟨u4, hv⟩ : ∃ x, u3.alloc (.cells #[.string ⟨#[112]⟩, .int .i64 1, .int .i64 5, .int .i64 3, .slice none 0 0, .slice (some ⟨b4, 0, none⟩) 2 2, .string ⟨#[113]⟩, .int .i64 2, .int .i64 6, .int .i64 3, .slice none 0 0, .slice (some ⟨b9, 0, none⟩) 2 2] 50) = x := ⟨_, rfl⟩
        rw [hv]
        obtain ⟨b12, hg⟩ : ∃ x, u3.heap.size = x := ⟨_, rfl⟩
        rw [hg]
        have K12 : Aside0 (u4.heap[b12]? = some (.cells #[.string ⟨#[112]⟩, .int .i64 1, .int .i64 5, .int .i64 3, .slice none 0 0, .slice (some ⟨b4, 0, none⟩) 2 2, .string ⟨#[113]⟩, .int .i64 2, .int .i64 6, .int .i64 3, .slice none 0 0, .slice (some ⟨b9, 0, none⟩) 2 2] 50 (0, 0))) := ⟨by rw [← hv, ← hg]; exact blk_new _ _⟩
        have ST : Aside0 (Below u3.heap.size u3 u4) := ⟨hv ▸ below1 _ _⟩
        have G12 : Aside0 (w4.heap.size ≤ b12) := ⟨hg ▸ HLW.out.size⟩
        clear hv hg
        have HLW := Aside0.mk (join_below HLW.out ST.out)
        have F0 := Aside0.mk (Kd.F_below F0.out ST.out)
        have K4 := Aside0.mk (blk_below K4.out ST.out)
        have K9 := Aside0.mk (blk_below K9.out ST.out)
        refine hK _ _ ⟨⟨_, HLW.out⟩, rfl⟩ ?_
        clear hK K ST
        have BB := Aside0.mk (join_below (join_below HG.out.b HB4.out) HLW.out)
        have R1 : Aside0 (Kd.F k48 u4 (fun q => q = b4 ∨ q = a1) (some ⟨b4, 0, none⟩) 2 [oneT 99, oneT 99]) := ⟨by have h := k48_mkF u4 (fun q => q = a1) (oneT 99) H1.out.1 (Kd.F_below (Kd.F_below H1.out.2.1 HB12.out) (join_below HB3.out BB.out)) (Nat.zero_le c2) (re_noneF (fun _ => re_none H1.out.2.2.2)); exact f_two K4.out rfl h h (fun q h => h) (fun q h => h)⟩
        have R2 : Aside0 (Kd.F k48 u4 (fun q => q = b9 ∨ (q = b1 ∨ q = a0)) (some ⟨b9, 0, none⟩) 2 [oneT 100, oneT 97]) := ⟨by have h := k48_mkF u4 (fun q => q = b1) (oneT 100) H2.out.1 (Kd.F_below H2.out.2.1 (join_below HB3.out BB.out)) (Nat.zero_le d2) (re_noneF (fun _ => re_none H2.out.2.2.2)); have h' := k48_mkF u4 (fun q => q = a0) (oneT 97) FE.out.1 F0.out (Nat.zero_le e0) (re_noneF (fun _ => re_none FE.out.2)); exact f_two K9.out rfl h h' (fun q h => Or.inl h) (fun q h => Or.inr h)⟩
        have T1 : Aside0 (Kd.FK kTok u4 (fun q => q = b4 ∨ q = a1) ⟨⟨#[112]⟩, 1, 5, ⟨3, [], [oneT 99, oneT 99]⟩⟩ [.string ⟨#[112]⟩, .int .i64 1, .int .i64 5, .int .i64 3, .slice none 0 0, .slice (some ⟨b4, 0, none⟩) 2 2]) := ⟨k50_mkF u4 _ ⟨⟨#[112]⟩, 1, 5, ⟨3, [], [oneT 99, oneT 99]⟩⟩ (show 0 ≤ 0 from Nat.le_refl _) (Kd.F_nil _ _ _) (show 2 ≤ 2 from Nat.le_refl _) R1.out⟩
        have T2 : Aside0 (Kd.FK kTok u4 (fun q => q = b9 ∨ (q = b1 ∨ q = a0)) ⟨⟨#[113]⟩, 2, 6, ⟨3, [], [oneT 100, oneT 97]⟩⟩ [.string ⟨#[113]⟩, .int .i64 2, .int .i64 6, .int .i64 3, .slice none 0 0, .slice (some ⟨b9, 0, none⟩) 2 2]) := ⟨k50_mkF u4 _ ⟨⟨#[113]⟩, 2, 6, ⟨3, [], [oneT 100, oneT 97]⟩⟩ (show 0 ≤ 0 from Nat.le_refl _) (Kd.F_nil _ _ _) (show 2 ≤ 2 from Nat.le_refl _) R2.out⟩
        have HPQ := Aside0.mk (f_two (okB := fun q => (q = b4 ∨ q = a1) ∨ (q = b9 ∨ (q = b1 ∨ q = a0))) K12.out rfl T1.out T2.out (fun q h => Or.inl h) (fun q h => Or.inr h))
        have HTT := Aside0.mk (Kd.N_F (Kd.N_below HGN.out (join_below HB4.out HLW.out)))
        refine Ord.allL1 (i := 13) (by as_aux_lemma => kernel_rfl) (by rfl) (fun K hK => ?_)
        refine n_append_full kTok (w0 := W) W.heap.size (by rfl) (.tmp 35) (.tmp 46) 23 50 (.agg #[.string ⟨#[]⟩, .int .i64 0, .int .i64 0, .int .i64 0, .slice none 0 0, .slice none 0 0]) 88 rfl Tryd.underlying23 (by as_aux_lemma => kernel_rfl) rfl (by decide) (by decide) madeT tokPQ ⟨gR, 0, none⟩ ⟨b12, 0, none⟩ 4 2 2 (fun k => W.heap.size < k ∧ k ≠ gG) (fun k => W.heap.size < k ∧ k ≠ gG) (fun q => q = b12 ∨ ((q = b4 ∨ q = a1) ∨ (q = b9 ∨ (q = b1 ∨ q = a0)))) rfl rfl HTT.out HPQ.out (by decide) (fun q h => h) (fun q hq => ?hX) (fun q hq => ?hF) (join_below (join_below HB2.out HB3.out) BB.out) ?hS (by decide) ?_
        case hX => have h1 := G4.out; have h2 := G8.out; have h3 := G9.out; have h4 := G12.out; have h5 := HGL.out; have h6 := N1.out; have h7 := N2.out; have h8 := HG.out.ge; have h9 := HAB.out; have h10 := HW3.out; rcases hq with hq | (hq | hq) | hq | hq | hq <;> (subst hq; exact ⟨by omega, by omega⟩)
        case hF => have h1 := HLW.out.size; have h5 := HGL.out; have h10 := HW3.out; have h8 := HG.out.ge; exact ⟨by omega, by omega⟩
        case hS => have h1 := HLW.out.size; have h5 := HGL.out; have h10 := HW3.out; have h8 := HG.out.ge; omega
        intro v9 w9 hN hB hgr hat
        obtain ⟨A9, c9, hv9⟩ := Kd.N_slice hN
        subst hv9
        have HN9 := Aside0.mk hN
        have HLW := Aside0.mk (join_below HLW.out (Below.grown (Below.refl _ _) hgr (Nat.le_refl _) (fun k hk => by cases hk)))
        clear hN hB hgr hat
        refine hK _ _ ⟨⟨_, HLW.out⟩, rfl⟩ ?_
        clear hK K
        ((refine Ord.takeL (i := 14) (by rfl) (by as_aux_lemma => kernel_rfl) ?_ ?_ ?_); (focus first | exact fun _ _ _ _ h => h | exact fun _ _ _ _ h => HPQ.out _ _ _ _ (by rfl) h); (focus exact ⟨⟨_, HLW.out⟩, rfl⟩); intro K hK; go_simp; (with_reducible refine hK _ ?_); clear hK K)
        have y0 : World.cell? w9 ⟨gG, 0, none⟩ = some (.slice (some ⟨gR, 0, none⟩) 4 4) := (blk_cell (blk_below HGB.out HLW.out) 0).trans rfl
        have z0 := blk_frozen (blk_below HGB.out HLW.out) 0
        refine Ord.lastL (by as_aux_lemma => kernel_rfl) (by rfl) (by decide) (fun K hK => ?_)
        go_simp
        clear y0 z0
        refine hK _ _ ?_
        clear hK K
        obtain ⟨w8, hw8⟩ : ∃ x, w9.setCell ⟨gG, 0, none⟩ (.slice A9 (madeT.length + tokPQ.length) c9) = x := ⟨_, rfl⟩
        have HB8 : Aside0 (Below w3.heap.size w3 w8) := ⟨hw8 ▸ (join_below (join_below HG.out.b HB4.out) HLW.out).setCell HG.out.ge _⟩
        have HK8 : Aside0 (w8.heap[gG]? = some (.cells #[.slice A9 (madeT.length + tokPQ.length) c9, .slice none 0 0] 26 (0, 0))) := ⟨hw8 ▸ blk_put (blk_below HGB.out HLW.out) 0 _ rfl⟩
        have HN8 : Aside0 (Kd.N kTok 50 w8 W.heap.size (fun k => W.heap.size < k ∧ k ≠ gG) (.slice A9 (madeT.length + tokPQ.length) c9) (madeT ++ tokPQ)) := ⟨hw8 ▸ Kd.N_far (p := ⟨gG, 0, none⟩) (List.length_append ▸ HN9.out) (fun q hq => hq.2) _⟩
        have HE8 : Aside0 (gG < w8.heap.size) := ⟨blk_lt HK8.out⟩
        rw [hw8]
        clear hw8
        refine wpAnyH_done (by as_aux_lemma => kernel_rfl) ?_ _
        go_wp2
        go_meet
        case rel => exact ⟨⟨⟨_, _, _, blk_below HK8.out (below_alloc (below1 _ _) _), by unfold madeTs; rw [if_pos H3.out]; exact Kd.N_below HN8.out (below_alloc (below1 _ _) _)⟩, HG.out.ge, by unfold madeCalls; rw [if_pos H3.out]; exact ⟨w8.heap.size, rfl, by have := HE8.out; have := HG.out.ge; have := HW3.out; omega, by have := HE8.out; omega, text_two (blk_alloc (blk_new _ _) _)⟩, by unfold madeRets; rw [if_pos H3.out]; exact ⟨w8.heap.size + 1, rfl, by have := HE8.out; have := HG.out.ge; have := HW3.out; omega, by have := HE8.out; omega, text_two (second w8 _ _ _)⟩, join_below HB8.out (below_alloc (below1 _ _) _)⟩⟩
      · skip
        go_simp
        obtain ⟨u2, hv⟩ : ∃ x, u1.alloc (.cells #[.int .i64 2, .slice (some ⟨b1, 0, none⟩) 1 d1, .slice B2 0 d2, .int .i64 2, .slice (some ⟨a0, 0, none⟩) 1 c0, .slice E0 0 e0] 48) = x := ⟨_, rfl⟩
        rw [hv]
        obtain ⟨b9, hg⟩ : ∃ x, u1.heap.size = x := ⟨_, rfl⟩
        rw [hg]
        have K9 : Aside0 (u2.heap[b9]? = some (.cells #[.int .i64 2, .slice (some ⟨b1, 0, none⟩) 1 d1, .slice B2 0 d2, .int .i64 2, .slice (some ⟨a0, 0, none⟩) 1 c0, .slice E0 0 e0] 48 (0, 0))) := ⟨by rw [← hv, ← hg]; exact blk_new _ _⟩
        have ST : Aside0 (Below u1.heap.size u1 u2) := ⟨hv ▸ below1 _ _⟩
        have G9 : Aside0 (w4.heap.size ≤ b9) := ⟨hg ▸ HLW.out.size⟩
        clear hv hg
        have HLW := Aside0.mk (join_below HLW.out ST.out)
        have F0 := Aside0.mk (Kd.F_below F0.out ST.out)
        refine hK _ _ ⟨⟨_, HLW.out⟩, rfl⟩ ?_
        clear hK K ST
        ((refine Ord.takeL (i := 10) (by rfl) (by as_aux_lemma => kernel_rfl) ?_ ?_ ?_); (focus first | exact fun _ _ _ _ h => h | exact fun _ _ _ _ h => HPQ.out _ _ _ _ (by rfl) h); (focus exact ⟨⟨_, HLW.out⟩, rfl⟩); intro K hK; go_simp; (with_reducible refine hK _ ?_); clear hK K)
        ((refine Ord.takeL (i := 11) (by rfl) (by as_aux_lemma => kernel_rfl) ?_ ?_ ?_); (focus first | exact fun _ _ _ _ h => h | exact fun _ _ _ _ h => HPQ.out _ _ _ _ (by rfl) h); (focus exact ⟨⟨_, HLW.out⟩, rfl⟩); intro K hK; go_simp; (with_reducible refine hK _ ?_); clear hK K)
        refine Ord.allL1 (i := 4) (by as_aux_lemma => kernel_rfl) (by rfl) (fun K hK => ?_)
        go_simp
        obtain ⟨u3, hv⟩ : ∃ x, u2.alloc (.cells #[.int .i64 2, .slice (some ⟨a1, 0, none⟩) 1 c1, .slice A2 0 c2, .int .i64 2, .slice (some ⟨a1, 0, none⟩) 1 c1, .slice A2 0 c2] 48) = x := ⟨_, rfl⟩
        rw [hv]
        obtain ⟨b4, hg⟩ : ∃ x, u2.heap.size = x := ⟨_, rfl⟩
        rw [hg]
        have K4 : Aside0 (u3.heap[b4]? = some (.cells #[.int .i64 2, .slice (some ⟨a1, 0, none⟩) 1 c1, .slice A2 0 c2, .int .i64 2, .slice (some ⟨a1, 0, none⟩) 1 c1, .slice A2 0 c2] 48 (0, 0))) := ⟨by rw [← hv, ← hg]; exact blk_new _ _⟩
        have ST : Aside0 (Below u2.heap.size u2 u3) := ⟨hv ▸ below1 _ _⟩
        have G4 : Aside0 (w4.heap.size ≤ b4) := ⟨hg ▸ HLW.out.size⟩
        clear hv hg
        have HLW := Aside0.mk (join_below HLW.out ST.out)
        have F0 := Aside0.mk (Kd.F_below F0.out ST.out)
        have K9 := Aside0.mk (blk_below K9.out ST.out)
        refine hK _ _ ⟨⟨_, HLW.out⟩, rfl⟩ ?_
        clear hK K ST
        ((refine Ord.takeL (i := 5) (by rfl) (by as_aux_lemma => kernel_rfl) ?_ ?_ ?_); (focus first | exact fun _ _ _ _ h => h | exact fun _ _ _ _ h => HPQ.out _ _ _ _ (by rfl) h); (focus exact ⟨⟨_, HLW.out⟩, rfl⟩); intro K hK; go_simp; (with_reducible refine hK _ ?_); clear hK K)
        ((refine Ord.takeL (i := 6) (by rfl) (by as_aux_lemma => kernel_rfl) ?_ ?_ ?_); (focus first | exact fun _ _ _ _ h => h | exact fun _ _ _ _ h => HPQ.out _ _ _ _ (by rfl) h); (focus exact ⟨⟨_, HLW.out⟩, rfl⟩); intro K hK; go_simp; (with_reducible refine hK _ ?_); clear hK K)
        refine Ord.allL1 (i := 12) (by as_aux_lemma => kernel_rfl) (by rfl) (fun K hK => ?_)
        go_simp
        obtain ⟨u4, hv⟩ : ∃ x, u3.alloc (.cells #[.string ⟨#[112]⟩, .int .i64 1, .int .i64 5, .int .i64 3, .slice none 0 0, .slice (some ⟨b4, 0, none⟩) 2 2, .string ⟨#[113]⟩, .int .i64 2, .int .i64 6, .int .i64 3, .slice none 0 0, .slice (some ⟨b9, 0, none⟩) 2 2] 50) = x := ⟨_, rfl⟩
        rw [hv]
        obtain ⟨b12, hg⟩ : ∃ x, u3.heap.size = x := ⟨_, rfl⟩
        rw [hg]
        have K12 : Aside0 (u4.heap[b12]? = some (.cells #[.string ⟨#[112]⟩, .int .i64 1, .int .i64 5, .int .i64 3, .slice none 0 0, .slice (some ⟨b4, 0, none⟩) 2 2, .string ⟨#[113]⟩, .int .i64 2, .int .i64 6, .int .i64 3, .slice none 0 0, .slice (some ⟨b9, 0, none⟩) 2 2] 50 (0, 0))) := ⟨by rw [← hv, ← hg]; exact blk_new _ _⟩
        have ST : Aside0 (Below u3.heap.size u3 u4) := ⟨hv ▸ below1 _ _⟩
        have G12 : Aside0 (w4.heap.size ≤ b12) := ⟨hg ▸ HLW.out.size⟩
        clear hv hg
        have HLW := Aside0.mk (join_below HLW.out ST.out)
        have F0 := Aside0.mk (Kd.F_below F0.out ST.out)
        have K9 := Aside0.mk (blk_below K9.out ST.out)
        have K4 := Aside0.mk (blk_below K4.out ST.out)
        refine hK _ _ ⟨⟨_, HLW.out⟩, rfl⟩ ?_
        clear hK K ST
        have BB := Aside0.mk (join_below (join_below HG.out.b HB4.out) HLW.out)
        have R1 : Aside0 (Kd.F k48 u4 (fun q => q = b4 ∨ q = a1) (some ⟨b4, 0, none⟩) 2 [oneT 99, oneT 99]) := ⟨by have h := k48_mkF u4 (fun q => q = a1) (oneT 99) H1.out.1 (Kd.F_below (Kd.F_below H1.out.2.1 HB12.out) (join_below HB3.out BB.out)) (Nat.zero_le c2) (re_noneF (fun _ => re_none H1.out.2.2.2)); exact f_two K4.out rfl h h (fun q h => h) (fun q h => h)⟩
        have R2 : Aside0 (Kd.F k48 u4 (fun q => q = b9 ∨ (q = b1 ∨ q = a0)) (some ⟨b9, 0, none⟩) 2 [oneT 100, oneT 97]) := ⟨by have h := k48_mkF u4 (fun q => q = b1) (oneT 100) H2.out.1 (Kd.F_below H2.out.2.1 (join_below HB3.out BB.out)) (Nat.zero_le d2) (re_noneF (fun _ => re_none H2.out.2.2.2)); have h' := k48_mkF u4 (fun q => q = a0) (oneT 97) FE.out.1 F0.out (Nat.zero_le e0) (re_noneF (fun _ => re_none FE.out.2)); exact f_two K9.out rfl h h' (fun q h => Or.inl h) (fun q h => Or.inr h)⟩
        have T1 : Aside0 (Kd.FK kTok u4 (fun q => q = b4 ∨ q = a1) ⟨⟨#[112]⟩, 1, 5, ⟨3, [], [oneT 99, oneT 99]⟩⟩ [.string ⟨#[112]⟩, .int .i64 1, .int .i64 5, .int .i64 3, .slice none 0 0, .slice (some ⟨b4, 0, none⟩) 2 2]) := ⟨k50_mkF u4 _ ⟨⟨#[112]⟩, 1, 5, ⟨3, [], [oneT 99, oneT 99]⟩⟩ (show 0 ≤ 0 from Nat.le_refl _) (Kd.F_nil _ _ _) (show 2 ≤ 2 from Nat.le_refl _) R1.out⟩
        have T2 : Aside0 (Kd.FK kTok u4 (fun q => q = b9 ∨ (q = b1 ∨ q = a0)) ⟨⟨#[113]⟩, 2, 6, ⟨3, [], [oneT 100, oneT 97]⟩⟩ [.string ⟨#[113]⟩, .int .i64 2, .int .i64 6, .int .i64 3, .slice none 0 0, .slice (some ⟨b9, 0, none⟩) 2 2]) := ⟨k50_mkF u4 _ ⟨⟨#[113]⟩, 2, 6, ⟨3, [], [oneT 100, oneT 97]⟩⟩ (show 0 ≤ 0 from Nat.le_refl _) (Kd.F_nil _ _ _) (show 2 ≤ 2 from Nat.le_refl _) R2.out⟩
        have HPQ := Aside0.mk (f_two (okB := fun q => (q = b4 ∨ q = a1) ∨ (q = b9 ∨ (q = b1 ∨ q = a0))) K12.out rfl T1.out T2.out (fun q h => Or.inl h) (fun q h => Or.inr h))
        have HTT := Aside0.mk (Kd.N_F (Kd.N_below HGN.out (join_below HB4.out HLW.out)))
        refine Ord.allL1 (i := 13) (by as_aux_lemma => kernel_rfl) (by rfl) (fun K hK => ?_)
        refine n_append_full kTok (w0 := W) W.heap.size (by rfl) (.tmp 35) (.tmp 46) 23 50 (.agg #[.string ⟨#[]⟩, .int .i64 0, .int .i64 0, .int .i64 0, .slice none 0 0, .slice none 0 0]) 88 rfl Tryd.underlying23 (by as_aux_lemma => kernel_rfl) rfl (by decide) (by decide) madeT tokPQ ⟨gR, 0, none⟩ ⟨b12, 0, none⟩ 4 2 2 (fun k => W.heap.size < k ∧ k ≠ gG) (fun k => W.heap.size < k ∧ k ≠ gG) (fun q => q = b12 ∨ ((q = b4 ∨ q = a1) ∨ (q = b9 ∨ (q = b1 ∨ q = a0)))) rfl rfl HTT.out HPQ.out (by decide) (fun q h => h) (fun q hq => ?hX) (fun q hq => ?hF) (join_below (join_below HB2.out HB3.out) BB.out) ?hS (by decide) ?_
        case hX => have h1 := G4.out; have h2 := G8.out; have h3 := G9.out; have h4 := G12.out; have h5 := HGL.out; have h6 := N1.out; have h7 := N2.out; have h8 := HG.out.ge; have h9 := HAB.out; have h10 := HW3.out; rcases hq with hq | (hq | hq) | hq | hq | hq <;> (subst hq; exact ⟨by omega, by omega⟩)
        case hF => have h1 := HLW.out.size; have h5 := HGL.out; have h10 := HW3.out; have h8 := HG.out.ge; exact ⟨by omega, by omega⟩
        case hS => have h1 := HLW.out.size; have h5 := HGL.out; have h10 := HW3.out; have h8 := HG.out.ge; omega
        intro v9 w9 hN hB hgr hat
        obtain ⟨A9, c9, hv9⟩ := Kd.N_slice hN
        subst hv9
        have HN9 := Aside0.mk hN
        have HLW := Aside0.mk (join_below HLW.out (Below.grown (Below.refl _ _) hgr (Nat.le_refl _) (fun k hk => by cases hk)))
        clear hN hB hgr hat
        refine hK _ _ ⟨⟨_, HLW.out⟩, rfl⟩ ?_
        clear hK K
        ((refine Ord.takeL (i := 14) (by rfl) (by as_aux_lemma => kernel_rfl) ?_ ?_ ?_); (focus first | exact fun _ _ _ _ h => h | exact fun _ _ _ _ h => HPQ.out _ _ _ _ (by rfl) h); (focus exact ⟨⟨_, HLW.out⟩, rfl⟩); intro K hK; go_simp; (with_reducible refine hK _ ?_); clear hK K)
        have y0 : World.cell? w9 ⟨gG, 0, none⟩ = some (.slice (some ⟨gR, 0, none⟩) 4 4) := (blk_cell (blk_below HGB.out HLW.out) 0).trans rfl
        have z0 := blk_frozen (blk_below HGB.out HLW.out) 0
        refine Ord.lastL (by as_aux_lemma => kernel_rfl) (by rfl) (by decide) (fun K hK => ?_)
        go_simp
        clear y0 z0
        refine hK _ _ ?_
        clear hK K
        obtain ⟨w8, hw8⟩ : ∃ x, w9.setCell ⟨gG, 0, none⟩ (.slice A9 (madeT.length + tokPQ.length) c9) = x := ⟨_, rfl⟩
        have HB8 : Aside0 (Below w3.heap.size w3 w8) := ⟨hw8 ▸ (join_below (join_below HG.out.b HB4.out) HLW.out).setCell HG.out.ge _⟩
        have HK8 : Aside0 (w8.heap[gG]? = some (.cells #[.slice A9 (madeT.length + tokPQ.length) c9, .slice none 0 0] 26 (0, 0))) := ⟨hw8 ▸ blk_put (blk_below HGB.out HLW.out) 0 _ rfl⟩
        have HN8 : Aside0 (Kd.N kTok 50 w8 W.heap.size (fun k => W.heap.size < k ∧ k ≠ gG) (.slice A9 (madeT.length + tokPQ.length) c9) (madeT ++ tokPQ)) := ⟨hw8 ▸ Kd.N_far (p := ⟨gG, 0, none⟩) (List.length_append ▸ HN9.out) (fun q hq => hq.2) _⟩
        have HE8 : Aside0 (gG < w8.heap.size) := ⟨blk_lt HK8.out⟩
        rw [hw8]
        clear hw8
        refine wpAnyH_done (by as_aux_lemma => kernel_rfl) ?_ _
        go_wp2
        go_meet
        case rel => exact ⟨⟨⟨_, _, _, blk_below HK8.out (below_alloc (below1 _ _) _), by unfold madeTs; rw [if_pos H3.out]; exact Kd.N_below HN8.out (below_alloc (below1 _ _) _)⟩, HG.out.ge, by unfold madeCalls; rw [if_pos H3.out]; exact ⟨w8.heap.size, rfl, by have := HE8.out; have := HG.out.ge; have := HW3.out; omega, by have := HE8.out; omega, text_two (blk_alloc (blk_new _ _) _)⟩, by unfold madeRets; rw [if_pos H3.out]; exact ⟨w8.heap.size + 1, rfl, by have := HE8.out; have := HG.out.ge; have := HW3.out; omega, by have := HE8.out; omega, text_two (second w8 _ _ _)⟩, join_below HB8.out (below_alloc (below1 _ _) _)⟩⟩
  · skip
    have e1 : decide (3 < (ls.length : Int)) = false := decide_eq_false (by omega)
    go_wp2
    go_meet
    case rel => exact ⟨⟨⟨_, _, _, HGB.out, by unfold madeTs; rw [if_neg h3]; exact Kd.N_below HGN.out HB4.out⟩, HG.out.ge, by unfold madeCalls; rw [if_neg h3]; exact ⟨b6, rfl, by have := HG.out.b.size; have := HB6.out; have := HW3.out; omega, by have := blk_lt HGB0.out; have := HB6.out; omega, text_one K6.out⟩, by unfold madeRets; rw [if_neg h3]; exact ⟨b6 + 1, rfl, by have := HG.out.b.size; have := HB6.out; have := HW3.out; omega, by have := blk_lt HGB0.out; have := HB6.out; omega, text_one K7.out⟩, join_below HG.out.b HB4.out⟩⟩
 obtain ⟨wH, rfl⟩ : ∃ x, x = wc := ⟨_, rfl⟩
 have HH := hcut
 clear hcut
 obtain ⟨bC, hv6, hc1, hc2, hc3⟩ := HH.out.calls
 obtain ⟨bR, hv7, hr1, hr2, hr3⟩ := HH.out.rets
 subst hv6 hv7
 have HCR := Aside0.mk (And.intro (And.intro hc1 (And.intro hc2 hc3)) (And.intro hr1 (And.intro hr2 hr3)))
 have HCB : Aside0 (bC < wH.heap.size ∧ bR < wH.heap.size) := ⟨txt_lt hc3 (madeCalls_pos _), txt_lt hr3 (madeRets_pos _)⟩
 clear hc1 hc2 hc3 hr1 hr2 hr3
 obtain ⟨A4, n4, c4, hgb, hgn⟩ := HH.out.g
 have HT := Aside0.mk hgn
 have hgbH := Aside0.mk hgb
 have HI0 : Aside0 (MadeI W w3 wH gG A4 n4 c4 0 ls wH) := ⟨⟨⟨none, 0, 0, hgb, Kd.N_nil _ _ _ _ _⟩, fun _ _ _ => rfl, Nat.le_refl _, HH.out.b⟩⟩
 clear hgb hgn
 go_wp2
 go_loopw [8] (fun i w => ∃ m : Nat, i = .int .i64 (m : Int) ∧ m ≤ ls.length ∧ m ≤ 3 ∧ Aside0 (MadeI W w3 wH gG A4 n4 c4 m ls w)) (fun i _ => 3 - (intOf i).toNat)
 case atStart => exact ⟨0, rfl, Nat.zero_le _, Nat.zero_le _, HI0⟩
 case round =>
  obtain ⟨m, rfl, hm1, hm2, HI⟩ := hrel
  by_cases hlt : m < ls.length ∧ m < 3
  · skip
    obtain ⟨g, o, rfl, _, _⟩ := row_cells (Kd.F_now HL.out) (by omega) (by decide)
    obtain ⟨ad, csl, had, _, hFKl, hcl, _⟩ := Kd.F_get HL.out [] (m : Int) (by omega) (by omega)
    obtain rfl := Option.some.inj had
    rw [Int.toNat_natCast] at hFKl hcl
    obtain ⟨l, hl0⟩ : ∃ l, ls.getD m [] = l := ⟨_, rfl⟩
    rw [hl0] at hFKl
    obtain ⟨Al, cl, rfl, hlc, hFl⟩ := Kd.FK_slice_open hFKl
    have hlm : ls[m]? = some l := by rw [← hl0, List.getD_eq_getElem?_getD, List.getElem?_eq_getElem hlt.1]; rfl
    have HLM := Aside0.mk hlm
    have HFL := Aside0.mk hFl
    have HLC := Aside0.mk hlc
    have HM := Aside0.mk hlt
    have HBR := Aside0.mk (join_below (join_below HB2.out HB3.out) HI.out.b)
    have y0 : World.cell? wr ⟨g, o + m, none⟩ = some (.slice Al l.length cl) := by have h := cell_after HBR.out (hcl 0 _ rfl); rwa [Nat.add_zero, show m * (Kd.slice 3 (Kd.int .i64)).sz = m from Nat.mul_one m, add_at] at h
    have e1 : decide (m < ls.length) = true := decide_eq_true hlt.1
    have e2 : decide ((m : Int) < 3) = true := decide_eq_true (by omega)
    have hl63 : l.length ≤ 9223372036854775807 := Kd.F_max hFl
    have hl20 : l.length ≤ 1048576 := HSM.out l (List.mem_of_getElem? hlm)
    clear hlm hFl hlc hl0 hFKl hcl
    by_cases h2 : l.length < 2
    · as_aux_lemma =>
      have e3 : decide ((l.length : Int) < 2) = true := decide_eq_true (by omega)
      have HI2 : Aside0 (MadeI W w3 wH gG A4 n4 c4 (m + 1) ls wr) := ⟨⟨by rw [rulesTo_skip HLM.out h2]; exact HI.out.g, HI.out.k, HI.out.s, HI.out.b⟩⟩
      clear h2
      go_wp2
      go_roundw
      case rel => exact ⟨m + 1, by go_num, by have := HM.out; omega, by have := HM.out; omega, HI2⟩
      case measure => have := HM.out; simp [intOf]; omega
    · skip
      have e3 : decide ((l.length : Int) < 2) = false := decide_eq_false (by omega)
      obtain ⟨k, hk⟩ : ∃ k, l[0]? = some k := ⟨_, List.getElem?_eq_getElem (by omega)⟩
      obtain ⟨g1, o1, rfl, _, hcell⟩ := row_cells (Kd.F_now HFL.out) (by omega) (by decide)
      obtain ⟨cs, hcl, hK, hcc⟩ := hcell 0 k hk
      have hck : cs = [.int .i64 k] := hK
      subst hck
      have y1 : World.cell? wr ⟨g1, o1, none⟩ = some (.int .i64 k) := by have h := cell_after HBR.out (hcc 0 _ rfl); rwa [Nat.zero_mul, Nat.add_zero] at h
      have HK := Aside0.mk hk
      have H2 := Aside0.mk h2
      have hm10 : IntKind.i64.wrap (10 + (m : Int)) = 10 + (m : Int) := by rw [IntKind.wrap_i64]; omega
      have hl0' : (0 : Int) < (l.length : Int) := by omega
      clear hcell hcl hK hcc hk h2
      have hu2 : (IntKind.u64.wrap k).tdiv 2 = IntKind.u64.wrap k / 2 := Int.tdiv_eq_ediv_of_nonneg (wrap_u0 k).1
      go_upto_block 2 with (fail)
      rw [stepsN_eq]
      obtain ⟨sn, hsn⟩ : ∃ x, stepsN k = x := ⟨_, rfl⟩
      rw [hsn]
      have HSN := Aside0.mk hsn
      have hsn2 : 1 ≤ sn ∧ sn ≤ 2 := hsn ▸ stepsN_le k
      obtain ⟨gr, hgr⟩ : ∃ x, wr.heap.size = x := ⟨_, rfl⟩
      obtain ⟨wJ, hwJ⟩ : ∃ x, wr.alloc (.cells #[.int .i64 (10 + (m : Int)), .bool (bits .and .i64 k 1 == 1), .slice none 0 0] 32) = x := ⟨_, rfl⟩
      have HJ0 : Aside0 (MadeS W wH wr gG gr ls.length m l k 0 wJ) := ⟨⟨⟨none, 0, 0, by rw [← hwJ, ← hgr]; exact blk_new _ _, Kd.N_nil _ _ _ _ _⟩, hwJ ▸ below1 _ _⟩⟩
      have HGR := Aside0.mk hgr
      rw [hwJ, hgr]
      have HY0 := Aside0.mk y0
      clear hwJ hgr hsn hm10 hu2 e1 e2 e3 y0 y1 hl0'
      obtain ⟨wI, rfl⟩ : ∃ x, x = wr := ⟨_, rfl⟩
      go_cut [] (fun w' => Aside0 (MadeS W wH wI gG gr ls.length m l k sn w'))
      case first =>
       go_wp2
       go_loopw [12] (fun i w => ∃ j : Nat, i = .int .i64 (j : Int) ∧ j ≤ sn ∧ Aside0 (MadeS W wH wI gG gr ls.length m l k j w)) (fun i _ => sn - (intOf i).toNat)
       case atStart => exact ⟨0, rfl, Nat.zero_le _, HJ0⟩
       case round =>
        obtain ⟨j, rfl, hj, HS⟩ := hrel
        by_cases hjl : j < sn
        · skip
          have e1 : decide ((j : Int) < (sn : Int)) = true := decide_eq_true (by omega)
          obtain ⟨w2, rfl⟩ : ∃ x, x = wr := ⟨_, rfl⟩
          go_upto_region 17 with (fail)
          clear e1
          obtain ⟨p, hp⟩ : ∃ x, madeP abS (madeCalls ls.length) (madeRets ls.length) (numbersOf l sn j) = x := ⟨_, rfl⟩
          have HP : Aside0 (stepOf ls.length l k j = ⟨if 0 < j ∨ freeOf k = true then pickS (madeCalls ls.length) (wrap64 (k.tdiv 4)) else [], p⟩) := ⟨by unfold stepOf; rw [HSN.out, hp]⟩
          have HP0 := Aside0.mk hp
          clear hp
          go_cut [13] (fun v w' => ∃ gS, v = .pointer (some ⟨gS, 0, none⟩) ∧ Aside0 (StepAt w2 bC bR gS none 0 0 p w'))
          case first =>
           have y0 : ∀ p : Later w2, p.wx.cell? ⟨g, o + m, none⟩ = some (.slice (some ⟨g1, o1, none⟩) l.length cl) := fun p => cell_after p.below (cell_after HS.out.b HY0.out)
           have hnb := numbersOf_bound (l := l) (n := sn) (j := j) (by have := H2.out; omega) hsn2.1 hjl
           have hno : numbersOf l sn j = (l.take (1 + (l.length - 1) * (j + 1) / sn)).drop (1 + (l.length - 1) * j / sn) := rfl
           obtain ⟨D, hD⟩ : ∃ x, l.length - 1 = x := ⟨_, rfl⟩
           obtain ⟨J, hJ⟩ : ∃ x, j + 1 = x := ⟨_, rfl⟩
           obtain ⟨E, hE⟩ : ∃ x, D * j = x := ⟨_, rfl⟩
           obtain ⟨E2, hE2⟩ : ∃ x, D * J = x := ⟨_, rfl⟩
           obtain ⟨F, hF⟩ : ∃ x, E / sn = x := ⟨_, rfl⟩
           obtain ⟨F2, hF2⟩ : ∃ x, E2 / sn = x := ⟨_, rfl⟩
           obtain ⟨f, hf⟩ : ∃ x, 1 + F = x := ⟨_, rfl⟩
           obtain ⟨t, ht⟩ : ∃ x, 1 + F2 = x := ⟨_, rfl⟩
           rw [hD, hJ, hE, hE2, hF, hF2, hf, ht] at hnb hno
           have b1 : D ≤ 1048575 ∧ J ≤ 2 := by omega
           have b2 : E ≤ 2097150 := hE ▸ (Nat.mul_le_mul b1.1 (show j ≤ 2 by omega))
           have b3 : E2 ≤ 2097150 := hE2 ▸ (Nat.mul_le_mul b1.1 b1.2)
           have b4 : F ≤ E := hF ▸ Nat.div_le_self _ _
           have b5 : F2 ≤ E2 := hF2 ▸ Nat.div_le_self _ _
           have kw : ∀ x : Nat, x ≤ 4000000 → IntKind.i64.wrap (x : Int) = (x : Int) := fun x hx => by rw [IntKind.wrap_i64]; omega
           have k0 : IntKind.i64.wrap ((l.length : Int) - 1) = (D : Int) := by rw [IntKind.wrap_i64]; omega
           have k1 : IntKind.i64.wrap ((D : Int) * (j : Int)) = (E : Int) := by rw [← Int.natCast_mul, hE]; exact kw _ (by omega)
           have k2 : IntKind.i64.wrap ((E : Int) / (sn : Int)) = (F : Int) := by rw [← Int.natCast_ediv, hF]; exact kw _ (by omega)
           have k3 : IntKind.i64.wrap (1 + (F : Int)) = (f : Int) := by rw [IntKind.wrap_i64]; omega
           have k4 : IntKind.i64.wrap ((j : Int) + 1) = (J : Int) := by rw [IntKind.wrap_i64]; omega
           have k5 : IntKind.i64.wrap ((D : Int) * (J : Int)) = (E2 : Int) := by rw [← Int.natCast_mul, hE2]; exact kw _ (by omega)
           have k6 : IntKind.i64.wrap ((E2 : Int) / (sn : Int)) = (F2 : Int) := by rw [← Int.natCast_ediv, hF2]; exact kw _ (by omega)
           have k7 : IntKind.i64.wrap (1 + (F2 : Int)) = (t : Int) := by rw [IntKind.wrap_i64]; omega
           have HNO := Aside0.mk (And.intro hno (And.intro hnb.1 hnb.2))
           have hsn0 : ¬ sn = 0 := by omega
           have hft : f ≤ t := hnb.1
           have htc : t ≤ cl := Nat.le_trans hnb.2 HLC.out
           clear hD hJ hE hE2 hF hF2 hf ht hnb hno b1 b2 b3 b4 b5 kw
           obtain ⟨wd, hwd⟩ : ∃ x, w2.drew = x := ⟨_, rfl⟩
           have HDR : Aside0 (Below w2.heap.size w2 wd) := ⟨hwd ▸ below_drew1 (Below.refl _ _)⟩
           have HLW := HDR
           refine Ord.region_L (S := fun w' => ∃ p : Later w2, w' = p.wx) (L := 34) (by as_aux_lemma => kernel_rfl) ?_
           rw [hwd]
           clear hwd
           ((refine Ord.takeLT (i := 0) (by rfl) (by as_aux_lemma => kernel_rfl) ?_ ?_ ?_); (focus first | exact fun _ _ _ _ h => h | exact fun _ _ _ _ h => HPQ.out _ _ _ _ (by rfl) h); (focus exact ⟨⟨_, HLW.out⟩, rfl⟩); intro K hK; go_simp; (with_reducible refine hK _ ?_); clear hK K)
           ((refine Ord.takeLT (i := 1) (by rfl) (by as_aux_lemma => kernel_rfl) ?_ ?_ ?_); (focus first | exact fun _ _ _ _ h => h | exact fun _ _ _ _ h => HPQ.out _ _ _ _ (by rfl) h); (focus exact ⟨⟨_, HLW.out⟩, rfl⟩); intro K hK; go_simp; (with_reducible refine hK _ ?_); clear hK K)
           ((refine Ord.takeLT (i := 2) (by rfl) (by as_aux_lemma => kernel_rfl) ?_ ?_ ?_); (focus first | exact fun _ _ _ _ h => h | exact fun _ _ _ _ h => HPQ.out _ _ _ _ (by rfl) h); (focus exact ⟨⟨_, HLW.out⟩, rfl⟩); intro K hK; go_simp; (with_reducible refine hK _ ?_); clear hK K)
           ((refine Ord.takeLT (i := 3) (by rfl) (by as_aux_lemma => kernel_rfl) ?_ ?_ ?_); (focus first | exact fun _ _ _ _ h => h | exact fun _ _ _ _ h => HPQ.out _ _ _ _ (by rfl) h); (focus exact ⟨⟨_, HLW.out⟩, rfl⟩); intro K hK; go_simp; (with_reducible refine hK _ ?_); clear hK K)
           ((refine Ord.takeLT (i := 4) (by rfl) (by as_aux_lemma => kernel_rfl) ?_ ?_ ?_); (focus first | exact fun _ _ _ _ h => h | exact fun _ _ _ _ h => HPQ.out _ _ _ _ (by rfl) h); (focus exact ⟨⟨_, HLW.out⟩, rfl⟩); intro K hK; go_simp; (with_reducible refine hK _ ?_); clear hK K)
           ((refine Ord.takeLT (i := 5) (by rfl) (by as_aux_lemma => kernel_rfl) ?_ ?_ ?_); (focus first | exact fun _ _ _ _ h => h | exact fun _ _ _ _ h => HPQ.out _ _ _ _ (by rfl) h); (focus exact ⟨⟨_, HLW.out⟩, rfl⟩); intro K hK; go_simp; (with_reducible refine hK _ ?_); clear hK K)
           ((refine Ord.takeLT (i := 6) (by rfl) (by as_aux_lemma => kernel_rfl) ?_ ?_ ?_); (focus first | exact fun _ _ _ _ h => h | exact fun _ _ _ _ h => HPQ.out _ _ _ _ (by rfl) h); (focus exact ⟨⟨_, HLW.out⟩, rfl⟩); intro K hK; go_simp; (with_reducible refine hK _ ?_); clear hK K)
           ((refine Ord.takeLT (i := 7) (by rfl) (by as_aux_lemma => kernel_rfl) ?_ ?_ ?_); (focus first | exact fun _ _ _ _ h => h | exact fun _ _ _ _ h => HPQ.out _ _ _ _ (by rfl) h); (focus exact ⟨⟨_, HLW.out⟩, rfl⟩); intro K hK; go_simp; (with_reducible refine hK _ ?_); clear hK K)
           ((refine Ord.takeLT (i := 8) (by rfl) (by as_aux_lemma => kernel_rfl) ?_ ?_ ?_); (focus first | exact fun _ _ _ _ h => h | exact fun _ _ _ _ h => HPQ.out _ _ _ _ (by rfl) h); (focus exact ⟨⟨_, HLW.out⟩, rfl⟩); intro K hK; go_simp; (with_reducible refine hK _ ?_); clear hK K)
           ((refine Ord.takeLT (i := 9) (by rfl) (by as_aux_lemma => kernel_rfl) ?_ ?_ ?_); (focus first | exact fun _ _ _ _ h => h | exact fun _ _ _ _ h => HPQ.out _ _ _ _ (by rfl) h); (focus exact ⟨⟨_, HLW.out⟩, rfl⟩); intro K hK; go_simp; (with_reducible refine hK _ ?_); clear hK K)
           ((refine Ord.takeLT (i := 10) (by rfl) (by as_aux_lemma => kernel_rfl) ?_ ?_ ?_); (focus first | exact fun _ _ _ _ h => h | exact fun _ _ _ _ h => HPQ.out _ _ _ _ (by rfl) h); (focus exact ⟨⟨_, HLW.out⟩, rfl⟩); intro K hK; go_simp; (with_reducible refine hK _ ?_); clear hK K)
           ((refine Ord.takeLT (i := 11) (by rfl) (by as_aux_lemma => kernel_rfl) ?_ ?_ ?_); (focus first | exact fun _ _ _ _ h => h | exact fun _ _ _ _ h => HPQ.out _ _ _ _ (by rfl) h); (focus exact ⟨⟨_, HLW.out⟩, rfl⟩); intro K hK; go_simp; (with_reducible refine hK _ ?_); clear hK K)
           ((refine Ord.takeLT (i := 12) (by rfl) (by as_aux_lemma => kernel_rfl) ?_ ?_ ?_); (focus first | exact fun _ _ _ _ h => h | exact fun _ _ _ _ h => HPQ.out _ _ _ _ (by rfl) h); (focus exact ⟨⟨_, HLW.out⟩, rfl⟩); intro K hK; go_simp; (with_reducible refine hK _ ?_); clear hK K)
           ((refine Ord.takeLT (i := 13) (by rfl) (by as_aux_lemma => kernel_rfl) ?_ ?_ ?_); (focus first | exact fun _ _ _ _ h => h | exact fun _ _ _ _ h => HPQ.out _ _ _ _ (by rfl) h); (focus exact ⟨⟨_, HLW.out⟩, rfl⟩); intro K hK; go_simp; (with_reducible refine hK _ ?_); clear hK K)
           ((refine Ord.takeLT (i := 14) (by rfl) (by as_aux_lemma => kernel_rfl) ?_ ?_ ?_); (focus first | exact fun _ _ _ _ h => h | exact fun _ _ _ _ h => HPQ.out _ _ _ _ (by rfl) h); (focus exact ⟨⟨_, HLW.out⟩, rfl⟩); intro K hK; go_simp; (with_reducible refine hK _ ?_); clear hK K)
           ((refine Ord.takeLT (i := 15) (by rfl) (by as_aux_lemma => kernel_rfl) ?_ ?_ ?_); (focus first | exact fun _ _ _ _ h => h | exact fun _ _ _ _ h => HPQ.out _ _ _ _ (by rfl) h); (focus exact ⟨⟨_, HLW.out⟩, rfl⟩); intro K hK; go_simp; (with_reducible refine hK _ ?_); clear hK K)
           ((refine Ord.takeLT (i := 16) (by rfl) (by as_aux_lemma => kernel_rfl) ?_ ?_ ?_); (focus first | exact fun _ _ _ _ h => h | exact fun _ _ _ _ h => HPQ.out _ _ _ _ (by rfl) h); (focus exact ⟨⟨_, HLW.out⟩, rfl⟩); intro K hK; go_simp; (with_reducible refine hK _ ?_); clear hK K)
           ((refine Ord.takeLT (i := 17) (by rfl) (by as_aux_lemma => kernel_rfl) ?_ ?_ ?_); (focus first | exact fun _ _ _ _ h => h | exact fun _ _ _ _ h => HPQ.out _ _ _ _ (by rfl) h); (focus exact ⟨⟨_, HLW.out⟩, rfl⟩); intro K hK; go_simp; (with_reducible refine hK _ ?_); clear hK K)
           ((refine Ord.takeLT (i := 18) (by rfl) (by as_aux_lemma => kernel_rfl) ?_ ?_ ?_); (focus first | exact fun _ _ _ _ h => h | exact fun _ _ _ _ h => HPQ.out _ _ _ _ (by rfl) h); (focus exact ⟨⟨_, HLW.out⟩, rfl⟩); intro K hK; go_simp; (with_reducible refine hK _ ?_); clear hK K)
           ((refine Ord.takeLT (i := 19) (by rfl) (by as_aux_lemma => kernel_rfl) ?_ ?_ ?_); (focus first | exact fun _ _ _ _ h => h | exact fun _ _ _ _ h => HPQ.out _ _ _ _ (by rfl) h); (focus exact ⟨⟨_, HLW.out⟩, rfl⟩); intro K hK; go_simp; (with_reducible refine hK _ ?_); clear hK K)
           ((refine Ord.takeLT (i := 20) (by rfl) (by as_aux_lemma => kernel_rfl) ?_ ?_ ?_); (focus first | exact fun _ _ _ _ h => h | exact fun _ _ _ _ h => HPQ.out _ _ _ _ (by rfl) h); (focus exact ⟨⟨_, HLW.out⟩, rfl⟩); intro K hK; go_simp; (with_reducible refine hK _ ?_); clear hK K)
           ((refine Ord.takeLT (i := 21) (by rfl) (by as_aux_lemma => kernel_rfl) ?_ ?_ ?_); (focus first | exact fun _ _ _ _ h => h | exact fun _ _ _ _ h => HPQ.out _ _ _ _ (by rfl) h); (focus exact ⟨⟨_, HLW.out⟩, rfl⟩); intro K hK; go_simp; (with_reducible refine hK _ ?_); clear hK K)
           ((refine Ord.takeLT (i := 22) (by rfl) (by as_aux_lemma => kernel_rfl) ?_ ?_ ?_); (focus first | exact fun _ _ _ _ h => h | exact fun _ _ _ _ h => HPQ.out _ _ _ _ (by rfl) h); (focus exact ⟨⟨_, HLW.out⟩, rfl⟩); intro K hK; go_simp; (with_reducible refine hK _ ?_); clear hK K)
           ((refine Ord.takeLT (i := 23) (by rfl) (by as_aux_lemma => kernel_rfl) ?_ ?_ ?_); (focus first | exact fun _ _ _ _ h => h | exact fun _ _ _ _ h => HPQ.out _ _ _ _ (by rfl) h); (focus exact ⟨⟨_, HLW.out⟩, rfl⟩); intro K hK; go_simp; (with_reducible refine hK _ ?_); clear hK K)
           ((refine Ord.takeLT (i := 24) (by rfl) (by as_aux_lemma => kernel_rfl) ?_ ?_ ?_); (focus first | exact fun _ _ _ _ h => h | exact fun _ _ _ _ h => HPQ.out _ _ _ _ (by rfl) h); (focus exact ⟨⟨_, HLW.out⟩, rfl⟩); intro K hK; go_simp; (with_reducible refine hK _ ?_); clear hK K)
           ((refine Ord.takeLT (i := 25) (by rfl) (by as_aux_lemma => kernel_rfl) ?_ ?_ ?_); (focus first | exact fun _ _ _ _ h => h | exact fun _ _ _ _ h => HPQ.out _ _ _ _ (by rfl) h); (focus exact ⟨⟨_, HLW.out⟩, rfl⟩); intro K hK; go_simp; (with_reducible refine hK _ ?_); clear hK K)
           ((refine Ord.takeLT (i := 26) (by rfl) (by as_aux_lemma => kernel_rfl) ?_ ?_ ?_); (focus first | exact fun _ _ _ _ h => h | exact fun _ _ _ _ h => HPQ.out _ _ _ _ (by rfl) h); (focus exact ⟨⟨_, HLW.out⟩, rfl⟩); intro K hK; go_simp; (with_reducible refine hK _ ?_); clear hK K)
           ((refine Ord.takeLT (i := 27) (by rfl) (by as_aux_lemma => kernel_rfl) ?_ ?_ ?_); (focus first | exact fun _ _ _ _ h => h | exact fun _ _ _ _ h => HPQ.out _ _ _ _ (by rfl) h); (focus exact ⟨⟨_, HLW.out⟩, rfl⟩); intro K hK; go_simp; (with_reducible refine hK _ ?_); clear hK K)
           ((refine Ord.takeLT (i := 29) (by rfl) (by as_aux_lemma => kernel_rfl) ?_ ?_ ?_); (focus first | exact fun _ _ _ _ h => h | exact fun _ _ _ _ h => HPQ.out _ _ _ _ (by rfl) h); (focus exact ⟨⟨_, HLW.out⟩, rfl⟩); intro K hK; go_simp; (with_reducible refine hK _ ?_); clear hK K)
           ((refine Ord.takeLT (i := 30) (by rfl) (by as_aux_lemma => kernel_rfl) ?_ ?_ ?_); (focus first | exact fun _ _ _ _ h => h | exact fun _ _ _ _ h => HPQ.out _ _ _ _ (by rfl) h); (focus exact ⟨⟨_, HLW.out⟩, rfl⟩); intro K hK; go_simp; (with_reducible refine hK _ ?_); clear hK K)
           clear y0 k0 k1 k2 k3 k4 k5 k6 k7 hsn0
           obtain ⟨AN, hAN⟩ : ∃ x, (if cl = f then (some ⟨g1, o1, none⟩ : Option Addr) else some ⟨g1, o1 + f, none⟩) = x := ⟨_, rfl⟩
           obtain ⟨ks, hks⟩ : ∃ x, numbersOf l sn j = x := ⟨_, rfl⟩
           rw [hks] at HNO
           have hkl : t - f = ks.length := by have h := HNO.out; rw [h.1]; simp; omega
           rw [hAN, hkl]
           have HNF : Aside0 (Kd.F (Kd.int .i64) W okA AN ks.length ks) := ⟨by have h := Kd.F_mid HFL.out HNO.out.2.1 HNO.out.2.2 HLC.out; rw [← HNO.out.1, show f * (Kd.int .i64).sz = f from Nat.mul_one f] at h; rw [← hAN]; by_cases hc : cl = f; (· rw [if_pos hc] at h ⊢; exact h); (· rw [if_neg hc] at h ⊢; rw [Option.map_some, add_at] at h; exact h)⟩
           have hp : madeP abS (madeCalls ls.length) (madeRets ls.length) ks = p := hks ▸ HP0.out
           have HPG : Aside0 (∀ (u : World) (bI : Nat), Below w2.heap.size w2 u → w2.heap.size ≤ bI → u.heap[bI]? = some (.cells #[.string ⟨#[97]⟩, .string ⟨#[98]⟩] 9 (0, 0)) → Calls Tryd.prog 17 #[.slice AN ks.length (cl - f), .slice (some ⟨bI, 0, none⟩) 2 2, .slice (some ⟨bC, 0, none⟩) (madeCalls ls.length).length (madeCalls ls.length).length, .slice (some ⟨bR, 0, none⟩) (madeRets ls.length).length (madeRets ls.length).length] u (PatPost (fun q => q = bI ∨ q = bC ∨ q = bR) p u)) := ⟨by
            intro u bI hb hge hbk
            have hlt := blk_lt hbk
            have hB : Below W.heap.size W u := join_below (join_below HBR.out HS.out.b) hb
            have hin : ∀ (b : Nat) (s : List ByteArray), b ≠ gG → Kd.F Kd.string wH (fun k => k = b) (some ⟨b, 0, none⟩) s.length s → Kd.F Kd.string u (fun k => k = b) (some ⟨b, 0, none⟩) s.length s := fun b s hne h => Kd.F_below (Kd.F_below (Kd.F_step h (fun q ho hl => HI.out.k q hl (by rw [ho]; exact hne))) HS.out.b) hb
            have h := pattern_gen abS (madeCalls ls.length) (madeRets ls.length) (some ⟨bI, 0, none⟩) (some ⟨bC, 0, none⟩) (some ⟨bR, 0, none⟩) 2 (madeCalls ls.length).length (madeRets ls.length).length ks AN (cl - f) (fun q => q = bI ∨ q = bC ∨ q = bR) u (fun q hq => by have h1 := HCB.out; have h2 := HI.out.s; have h3 := HS.out.b.size; have h4 := hb.size; omega) ⟨Kd.F_mono (text_two hbk) (fun q hq => Or.inl hq), Nat.le_refl 2, (by decide)⟩ ⟨Kd.F_mono (hin _ _ HCR.out.1.2.1 HCR.out.1.2.2) (fun q hq => Or.inr (Or.inl hq)), Nat.le_refl _, madeCalls_pos _⟩ ⟨Kd.F_mono (hin _ _ HCR.out.2.2.1 HCR.out.2.2.2) (fun q hq => Or.inr (Or.inr hq)), Nat.le_refl _, madeRets_pos _⟩ (Kd.F_now (Kd.F_below HNF.out hB))
            rw [hp] at h
            exact h⟩
           clear hks hp hkl hAN hft htc
           have HW2 : Aside0 (wH.heap.size ≤ w2.heap.size) := ⟨Nat.le_trans HI.out.s HS.out.b.size⟩
           refine Ord.allL2 (i := 28) (j := 33) (by as_aux_lemma => kernel_rfl) (by rfl) (by rfl) (fun K hK => ?_) (fun K hK => ?_)
           · skip
             go_simp
             obtain ⟨u1_, hv⟩ : ∃ x, wd.alloc (.cells #[.string ⟨#[97]⟩, .string ⟨#[98]⟩] 9) = x := ⟨_, rfl⟩
             rw [hv]
             obtain ⟨b28, hg⟩ : ∃ x, wd.heap.size = x := ⟨_, rfl⟩
             rw [hg]
             have K28 : Aside0 (u1_.heap[b28]? = some (.cells #[.string ⟨#[97]⟩, .string ⟨#[98]⟩] 9 (0, 0))) := ⟨by rw [← hv, ← hg]; exact blk_new _ _⟩
             have ST : Aside0 (Below wd.heap.size wd u1_) := ⟨hv ▸ below1 _ _⟩
             have G28 : Aside0 (w2.heap.size ≤ b28) := ⟨hg ▸ HLW.out.size⟩
             clear hv hg
             have HLW := Aside0.mk (join_below HLW.out ST.out)
             refine hK _ _ ⟨⟨_, HLW.out⟩, rfl⟩ ?_
             clear hK K ST
             refine Ord.allL2 (i := 31) (j := 33) (by as_aux_lemma => kernel_rfl) (by rfl) (by rfl) (fun K hK => ?_) (fun K hK => ?_)
             · skip
               go_simp
               refine (HPG.out u1_ b28 HLW.out G28.out K28.out).mono ?_
               rintro e u2_ ⟨cs, rfl, hFK, hb⟩
               obtain ⟨P2, r2, P3, r3, P4, r4, rfl, _, _, _, _, _, _⟩ := k37_open (Kd.FK_now hFK)
               have FP := Aside0.mk (Kd.FK_bound hFK)
               have ST := Aside0.mk hb
               clear hFK hb
               have K28 := Aside0.mk (blk_below K28.out ST.out)
               have HU31 : Aside0 (w2.heap.size ≤ u1_.heap.size) := ⟨HLW.out.size⟩
               have HLW := Aside0.mk (join_below HLW.out ST.out)
               refine hK _ _ ⟨⟨_, HLW.out⟩, rfl⟩ ?_
               clear hK K ST
               ((refine Ord.takeLT (i := 32) (by rfl) (by as_aux_lemma => kernel_rfl) ?_ ?_ ?_); (focus first | exact fun _ _ _ _ h => h | exact fun _ _ _ _ h => HPQ.out _ _ _ _ (by rfl) h); (focus exact ⟨⟨_, HLW.out⟩, rfl⟩); intro K hK; go_simp; (with_reducible refine hK _ ?_); clear hK K)
               refine Ord.allL1 (i := 33) (by as_aux_lemma => kernel_rfl) (by rfl) (fun K hK => ?_)
               go_simp
               obtain ⟨u3_, hv⟩ : ∃ x, u2_.alloc (.cells #[.slice none 0 0, .int .i64 0, .slice none 0 0, .slice none 0 0, .slice none 0 0] 39) = x := ⟨_, rfl⟩
               rw [hv]
               obtain ⟨b33, hg⟩ : ∃ x, u2_.heap.size = x := ⟨_, rfl⟩
               rw [hg]
               have K33 : Aside0 (u3_.heap[b33]? = some (.cells #[.slice none 0 0, .int .i64 0, .slice none 0 0, .slice none 0 0, .slice none 0 0] 39 (0, 0))) := ⟨by rw [← hv, ← hg]; exact blk_new _ _⟩
               have ST : Aside0 (Below u2_.heap.size u2_ u3_) := ⟨hv ▸ below1 _ _⟩
               have G33 : Aside0 (w2.heap.size ≤ b33) := ⟨hg ▸ HLW.out.size⟩
               have NE : Aside0 (b28 ≠ b33) := ⟨by have h := blk_lt K28.out; omega⟩
               have HOK : Aside0 (∀ q, ((q = b28 ∨ q = bC ∨ q = bR) ∨ u1_.heap.size ≤ q) ∧ q < u2_.heap.size → okStp w2 bC bR b33 q) := ⟨fun q hq => by have h1 := NE.out; have h2 := G28.out; have h3 := G33.out; have h4 := HCB.out; have h5 := HW2.out; have h6 := HU31.out; unfold okStp; omega⟩
               clear hv hg
               have K28 := Aside0.mk (blk_below K28.out ST.out)
               have FP := Aside0.mk (Kd.FK_below FP.out ST.out)
               have HLW := Aside0.mk (join_below HLW.out ST.out)
               refine hK _ _ ⟨⟨_, HLW.out⟩, rfl⟩ ?_
               clear hK K ST
               have y0 : World.cell? u3_ ⟨b33, 0, none⟩ = some (.slice none 0 0) := (blk_cell K33.out 0).trans rfl
               have z0 := blk_frozen K33.out 0
               have y1 : World.cell? u3_ ⟨b33, 1, none⟩ = some (.int .i64 0) := (blk_cell K33.out 1).trans rfl
               have z1 := blk_frozen K33.out 1
               have y2 : World.cell? u3_ ⟨b33, 2, none⟩ = some (.slice none 0 0) := (blk_cell K33.out 2).trans rfl
               have z2 := blk_frozen K33.out 2
               have y3 : World.cell? u3_ ⟨b33, 3, none⟩ = some (.slice none 0 0) := (blk_cell K33.out 3).trans rfl
               have z3 := blk_frozen K33.out 3
               have y4 : World.cell? u3_ ⟨b33, 4, none⟩ = some (.slice none 0 0) := (blk_cell K33.out 4).trans rfl
               have z4 := blk_frozen K33.out 4
               refine Ord.lastL (by as_aux_lemma => kernel_rfl) (by rfl) (by decide) (fun K hK => ?_)
               go_simp
               clear y0 y1 y2 y3 y4 z0 z1 z2 z3 z4
               refine hK _ _ ?_
               clear hK K
               have HX := Aside0.mk (StepAt.new (w5 := world5 u3_ b33 (.slice none 0 0) (.int .i64 p.f0) (.slice P2 p.f1.length r2) (.slice P3 p.f2.length r3) (.slice P4 p.f3.length r4)) rfl K33.out FP.out HOK.out HLW.out G33.out)
               refine wpAnyH_done (by as_aux_lemma => kernel_rfl) ?_ _
               go_wp2
               go_meet
               case rel => exact ⟨_, rfl, HX⟩
             · skip
               go_simp
               obtain ⟨u2_, hv⟩ : ∃ x, u1_.alloc (.cells #[.slice none 0 0, .int .i64 0, .slice none 0 0, .slice none 0 0, .slice none 0 0] 39) = x := ⟨_, rfl⟩
               rw [hv]
               obtain ⟨b33, hg⟩ : ∃ x, u1_.heap.size = x := ⟨_, rfl⟩
               rw [hg]
               have K33 : Aside0 (u2_.heap[b33]? = some (.cells #[.slice none 0 0, .int .i64 0, .slice none 0 0, .slice none 0 0, .slice none 0 0] 39 (0, 0))) := ⟨by rw [← hv, ← hg]; exact blk_new _ _⟩
               have ST : Aside0 (Below u1_.heap.size u1_ u2_) := ⟨hv ▸ below1 _ _⟩
               have G33 : Aside0 (w2.heap.size ≤ b33) := ⟨hg ▸ HLW.out.size⟩
               have NE : Aside0 (b28 ≠ b33) := ⟨by have h := blk_lt K28.out; omega⟩
               clear hv hg
               have K28 := Aside0.mk (blk_below K28.out ST.out)
               have HLW := Aside0.mk (join_below HLW.out ST.out)
               refine hK _ _ ⟨⟨_, HLW.out⟩, rfl⟩ ?_
               clear hK K ST
               refine Ord.allL1 (i := 31) (by as_aux_lemma => kernel_rfl) (by rfl) (fun K hK => ?_)
               go_simp
               refine (HPG.out u2_ b28 HLW.out G28.out K28.out).mono ?_
               rintro e u3_ ⟨cs, rfl, hFK, hb⟩
               obtain ⟨P2, r2, P3, r3, P4, r4, rfl, _, _, _, _, _, _⟩ := k37_open (Kd.FK_now hFK)
               have FP := Aside0.mk (Kd.FK_bound hFK)
               have ST := Aside0.mk hb
               have HOK : Aside0 (∀ q, ((q = b28 ∨ q = bC ∨ q = bR) ∨ u2_.heap.size ≤ q) ∧ q < u3_.heap.size → okStp w2 bC bR b33 q) := ⟨fun q hq => by have h1 := NE.out; have h2 := G28.out; have h3 := G33.out; have h4 := HCB.out; have h5 := HW2.out; have h6 := blk_lt K33.out; have h7 := HLW.out.size; unfold okStp; omega⟩
               clear hFK hb
               have K28 := Aside0.mk (blk_below K28.out ST.out)
               have K33 := Aside0.mk (blk_below K33.out ST.out)
               have HU31 : Aside0 (w2.heap.size ≤ u2_.heap.size) := ⟨HLW.out.size⟩
               have HLW := Aside0.mk (join_below HLW.out ST.out)
               refine hK _ _ ⟨⟨_, HLW.out⟩, rfl⟩ ?_
               clear hK K ST
               ((refine Ord.takeLT (i := 32) (by rfl) (by as_aux_lemma => kernel_rfl) ?_ ?_ ?_); (focus first | exact fun _ _ _ _ h => h | exact fun _ _ _ _ h => HPQ.out _ _ _ _ (by rfl) h); (focus exact ⟨⟨_, HLW.out⟩, rfl⟩); intro K hK; go_simp; (with_reducible refine hK _ ?_); clear hK K)
               have y0 : World.cell? u3_ ⟨b33, 0, none⟩ = some (.slice none 0 0) := (blk_cell K33.out 0).trans rfl
               have z0 := blk_frozen K33.out 0
               have y1 : World.cell? u3_ ⟨b33, 1, none⟩ = some (.int .i64 0) := (blk_cell K33.out 1).trans rfl
               have z1 := blk_frozen K33.out 1
               have y2 : World.cell? u3_ ⟨b33, 2, none⟩ = some (.slice none 0 0) := (blk_cell K33.out 2).trans rfl
               have z2 := blk_frozen K33.out 2
               have y3 : World.cell? u3_ ⟨b33, 3, none⟩ = some (.slice none 0 0) := (blk_cell K33.out 3).trans rfl
               have z3 := blk_frozen K33.out 3
               have y4 : World.cell? u3_ ⟨b33, 4, none⟩ = some (.slice none 0 0) := (blk_cell K33.out 4).trans rfl
               have z4 := blk_frozen K33.out 4
               refine Ord.lastL (by as_aux_lemma => kernel_rfl) (by rfl) (by decide) (fun K hK => ?_)
               go_simp
               clear y0 y1 y2 y3 y4 z0 z1 z2 z3 z4
               refine hK _ _ ?_
               clear hK K
               have HX := Aside0.mk (StepAt.new (w5 := world5 u3_ b33 (.slice none 0 0) (.int .i64 p.f0) (.slice P2 p.f1.length r2) (.slice P3 p.f2.length r3) (.slice P4 p.f3.length r4)) rfl K33.out FP.out HOK.out HLW.out G33.out)
               refine wpAnyH_done (by as_aux_lemma => kernel_rfl) ?_ _
               go_wp2
               go_meet
               case rel => exact ⟨_, rfl, HX⟩
           · skip
             go_simp
             obtain ⟨u1_, hv⟩ : ∃ x, wd.alloc (.cells #[.slice none 0 0, .int .i64 0, .slice none 0 0, .slice none 0 0, .slice none 0 0] 39) = x := ⟨_, rfl⟩
             rw [hv]
             obtain ⟨b33, hg⟩ : ∃ x, wd.heap.size = x := ⟨_, rfl⟩
             rw [hg]
             have K33 : Aside0 (u1_.heap[b33]? = some (.cells #[.slice none 0 0, .int .i64 0, .slice none 0 0, .slice none 0 0, .slice none 0 0] 39 (0, 0))) := ⟨by rw [← hv, ← hg]; exact blk_new _ _⟩
             have ST : Aside0 (Below wd.heap.size wd u1_) := ⟨hv ▸ below1 _ _⟩
             have G33 : Aside0 (w2.heap.size ≤ b33) := ⟨hg ▸ HLW.out.size⟩
             clear hv hg
             have HLW := Aside0.mk (join_below HLW.out ST.out)
             refine hK _ _ ⟨⟨_, HLW.out⟩, rfl⟩ ?_
             clear hK K ST
             refine Ord.allL1 (i := 28) (by as_aux_lemma => kernel_rfl) (by rfl) (fun K hK => ?_)
             go_simp
             obtain ⟨u2_, hv⟩ : ∃ x, u1_.alloc (.cells #[.string ⟨#[97]⟩, .string ⟨#[98]⟩] 9) = x := ⟨_, rfl⟩
             rw [hv]
             obtain ⟨b28, hg⟩ : ∃ x, u1_.heap.size = x := ⟨_, rfl⟩
             rw [hg]
             have K28 : Aside0 (u2_.heap[b28]? = some (.cells #[.string ⟨#[97]⟩, .string ⟨#[98]⟩] 9 (0, 0))) := ⟨by rw [← hv, ← hg]; exact blk_new _ _⟩
             have ST : Aside0 (Below u1_.heap.size u1_ u2_) := ⟨hv ▸ below1 _ _⟩
             have G28 : Aside0 (w2.heap.size ≤ b28) := ⟨hg ▸ HLW.out.size⟩
             have NE : Aside0 (b28 ≠ b33) := ⟨by have h := blk_lt K33.out; omega⟩
             clear hv hg
             have K33 := Aside0.mk (blk_below K33.out ST.out)
             have HLW := Aside0.mk (join_below HLW.out ST.out)
             refine hK _ _ ⟨⟨_, HLW.out⟩, rfl⟩ ?_
             clear hK K ST
             refine Ord.allL1 (i := 31) (by as_aux_lemma => kernel_rfl) (by rfl) (fun K hK => ?_)
             go_simp
             refine (HPG.out u2_ b28 HLW.out G28.out K28.out).mono ?_
             rintro e u3_ ⟨cs, rfl, hFK, hb⟩
             obtain ⟨P2, r2, P3, r3, P4, r4, rfl, _, _, _, _, _, _⟩ := k37_open (Kd.FK_now hFK)
             have FP := Aside0.mk (Kd.FK_bound hFK)
             have ST := Aside0.mk hb
             have HOK : Aside0 (∀ q, ((q = b28 ∨ q = bC ∨ q = bR) ∨ u2_.heap.size ≤ q) ∧ q < u3_.heap.size → okStp w2 bC bR b33 q) := ⟨fun q hq => by have h1 := NE.out; have h2 := G28.out; have h3 := G33.out; have h4 := HCB.out; have h5 := HW2.out; have h6 := blk_lt K33.out; have h7 := HLW.out.size; unfold okStp; omega⟩
             clear hFK hb
             have K33 := Aside0.mk (blk_below K33.out ST.out)
             have K28 := Aside0.mk (blk_below K28.out ST.out)
             have HU31 : Aside0 (w2.heap.size ≤ u2_.heap.size) := ⟨HLW.out.size⟩
             have HLW := Aside0.mk (join_below HLW.out ST.out)
             refine hK _ _ ⟨⟨_, HLW.out⟩, rfl⟩ ?_
             clear hK K ST
             ((refine Ord.takeLT (i := 32) (by rfl) (by as_aux_lemma => kernel_rfl) ?_ ?_ ?_); (focus first | exact fun _ _ _ _ h => h | exact fun _ _ _ _ h => HPQ.out _ _ _ _ (by rfl) h); (focus exact ⟨⟨_, HLW.out⟩, rfl⟩); intro K hK; go_simp; (with_reducible refine hK _ ?_); clear hK K)
             have y0 : World.cell? u3_ ⟨b33, 0, none⟩ = some (.slice none 0 0) := (blk_cell K33.out 0).trans rfl
             have z0 := blk_frozen K33.out 0
             have y1 : World.cell? u3_ ⟨b33, 1, none⟩ = some (.int .i64 0) := (blk_cell K33.out 1).trans rfl
             have z1 := blk_frozen K33.out 1
             have y2 : World.cell? u3_ ⟨b33, 2, none⟩ = some (.slice none 0 0) := (blk_cell K33.out 2).trans rfl
             have z2 := blk_frozen K33.out 2
             have y3 : World.cell? u3_ ⟨b33, 3, none⟩ = some (.slice none 0 0) := (blk_cell K33.out 3).trans rfl
             have z3 := blk_frozen K33.out 3
             have y4 : World.cell? u3_ ⟨b33, 4, none⟩ = some (.slice none 0 0) := (blk_cell K33.out 4).trans rfl
             have z4 := blk_frozen K33.out 4
             refine Ord.lastL (by as_aux_lemma => kernel_rfl) (by rfl) (by decide) (fun K hK => ?_)
             go_simp
             clear y0 y1 y2 y3 y4 z0 z1 z2 z3 z4
             refine hK _ _ ?_
             clear hK K
             have HX := Aside0.mk (StepAt.new (w5 := world5 u3_ b33 (.slice none 0 0) (.int .i64 p.f0) (.slice P2 p.f1.length r2) (.slice P3 p.f2.length r3) (.slice P4 p.f3.length r4)) rfl K33.out FP.out HOK.out HLW.out G33.out)
             refine wpAnyH_done (by as_aux_lemma => kernel_rfl) ?_ _
             go_wp2
             go_meet
             case rel => exact ⟨_, rfl, HX⟩
          obtain ⟨gS, rfl, HX⟩ := hcut
          obtain ⟨B, r, d, hrb, hrn⟩ := HS.out.g
          obtain ⟨xs, hxs⟩ : ∃ x, stepsTo ls.length l k j = x := ⟨_, rfl⟩
          obtain ⟨st, hst⟩ : ∃ x, stepOf ls.length l k j = x := ⟨_, rfl⟩
          have HLS : Aside0 (xs.length ≤ 2) := ⟨by rw [← hxs, stepsTo_len]; omega⟩
          have HXS : Aside0 (stepsTo ls.length l k (j + 1) = xs ++ [st]) := ⟨by rw [stepsTo, hxs, hst]⟩
          rw [hxs] at hrn
          rw [hst] at HP
          clear hxs hst
          obtain ⟨rfl, hrd, _⟩ := Kd.N_reads' hrn
          have HRN := Aside0.mk hrn
          have HRB := Aside0.mk hrb
          have HRD := Aside0.mk hrd
          have HW2 : Aside0 (wH.heap.size ≤ w2.heap.size ∧ wH.heap.size ≤ wI.heap.size ∧ wI.heap.size ≤ w2.heap.size) := ⟨Nat.le_trans HI.out.s HS.out.b.size, HI.out.s, HS.out.b.size⟩
          have HRX : Aside0 (∀ wx : World, Below w2.heap.size w2 wx → wx.heap[gr]? = some (.cells #[.int .i64 (10 + (m : Int)), .bool (freeOf k), .slice B xs.length d] 32 (0, 0))) := ⟨fun wx hb => blk_below HRB.out hb⟩
          have HGG : Aside0 (gG < wH.heap.size) := ⟨blk_lt hgbH.out⟩
          have HOKS : Aside0 (∀ q, okStp w2 bC bR gS q → (((W.heap.size < q ∧ q ≠ gG) ∧ (q < wH.heap.size ∨ wI.heap.size ≤ q)) ∧ q ≠ gr) ∧ some q ≠ (Value.slice B xs.length d).ownBlock) := ⟨fun q hq => by have h1 := HCR.out.1; have h2 := HCR.out.2; have h3 := HCB.out; have h4 := HW2.out; have h5 := HGR.out; have h6 := blk_lt HRB.out; have h7 := HGG.out; have h8 := HW3.out; have h9 := HH.out.b.size; have h10 := h1.1; have h11 := h1.2.1; have h12 := h2.1; have h13 := h2.2.1; clear h1 h2; unfold okStp at hq; exact ⟨by omega, fun e => by have h1 := Kd.N_base HRN.out q e.symm; have h2 := Kd.N_lt HRN.out q e.symm; omega⟩⟩
          clear hrb hrn hrd
          have x1 : World.cell? wc ⟨gr, 1, none⟩ = some (.bool (freeOf k)) := (blk_cell (HRX.out _ HX.out.b) 1).trans rfl
          by_cases hc : 0 < j
          · skip
            have HC : Aside0 (0 < j ∨ freeOf k = true) := ⟨Or.inl hc⟩
            clear x1
            have y0 : World.cell? wc ⟨gS, 0, none⟩ = some (.slice none 0 0) := by obtain ⟨P2, r2, P3, r3, P4, r4, hsb, hsk⟩ := HX.out.h; exact (blk_cell hsb 0).trans rfl
            have z0 : World.frozen? wc ⟨gS, 0, none⟩ = false := by obtain ⟨P2, r2, P3, r3, P4, r4, hsb, hsk⟩ := HX.out.h; exact blk_frozen hsb 0
            go_wp2_with fail
            refine (pick_val (madeCalls ls.length) (some ⟨bC, 0, none⟩) (madeCalls ls.length).length _ _ (madeCalls_pos _) (Kd.F_max HCR.out.1.2.2) (Nat.le_refl _)).mono ?_
            rintro e wx ⟨rfl, hw⟩
            obtain rfl : wc = wx := hw.symm
            go_upto_region 20 with (fail)
            clear y0 z0
            obtain ⟨w5, hw5⟩ : ∃ x, wc.setCell ⟨gS, 0, none⟩ (.slice (pickA (madeCalls ls.length) (some ⟨bC, 0, none⟩) (wrap64 (k.tdiv 4))) (pickS (madeCalls ls.length) (wrap64 (k.tdiv 4))).length (pickC (madeCalls ls.length) (madeCalls ls.length).length (wrap64 (k.tdiv 4)))) = x := ⟨_, rfl⟩
            have HX5 : Aside0 (StepAt w2 bC bR gS (pickA (madeCalls ls.length) (some ⟨bC, 0, none⟩) (wrap64 (k.tdiv 4))) (pickS (madeCalls ls.length) (wrap64 (k.tdiv 4))).length (pickC (madeCalls ls.length) (madeCalls ls.length).length (wrap64 (k.tdiv 4))) p w5) := ⟨hw5 ▸ HX.out.put⟩
            rw [hw5]
            clear hw5
            obtain ⟨P2, r2, P3, r3, P4, r4, hsb, hsk⟩ := HX5.out.h
            have HFS : Aside0 (Kd.FK k39 w5 (okStp w2 bC bR gS) st [.slice (pickA (madeCalls ls.length) (some ⟨bC, 0, none⟩) (wrap64 (k.tdiv 4))) (pickS (madeCalls ls.length) (wrap64 (k.tdiv 4))).length (pickC (madeCalls ls.length) (madeCalls ls.length).length (wrap64 (k.tdiv 4))), .int .i64 p.f0, .slice P2 p.f1.length r2, .slice P3 p.f2.length r3, .slice P4 p.f3.length r4]) := ⟨by rw [HP.out, if_pos HC.out]; exact StepAt.fk hsb hsk (pick_le _ (madeCalls_pos _) (Nat.le_refl _)) (pick_F _ (madeCalls_pos _) (Nat.le_refl _) (Kd.F_mono (Kd.F_below (Kd.F_below (Kd.F_step HCR.out.1.2.2 (fun q ho hl => HI.out.k q hl (by rw [ho]; exact HCR.out.1.2.1))) HS.out.b) HX5.out.b) (fun q hq => ⟨Or.inl hq, by have h1 := HCB.out; have h2 := HW2.out; have h3 := HX5.out.ge; omega⟩)))⟩
            have HSB := Aside0.mk hsb
            have y0 : World.cell? w5 ⟨gS, 0, none⟩ = some (.slice (pickA (madeCalls ls.length) (some ⟨bC, 0, none⟩) (wrap64 (k.tdiv 4))) (pickS (madeCalls ls.length) (wrap64 (k.tdiv 4))).length (pickC (madeCalls ls.length) (madeCalls ls.length).length (wrap64 (k.tdiv 4)))) := (blk_cell HSB.out 0).trans rfl
            have y1 : World.cell? w5 ⟨gS, 1, none⟩ = some (.int .i64 p.f0) := (blk_cell HSB.out 1).trans rfl
            have y2 : World.cell? w5 ⟨gS, 2, none⟩ = some (.slice P2 p.f1.length r2) := (blk_cell HSB.out 2).trans rfl
            have y3 : World.cell? w5 ⟨gS, 3, none⟩ = some (.slice P3 p.f2.length r3) := (blk_cell HSB.out 3).trans rfl
            have y4 : World.cell? w5 ⟨gS, 4, none⟩ = some (.slice P4 p.f3.length r4) := (blk_cell HSB.out 4).trans rfl
            have x2 : World.cell? w5 ⟨gr, 2, none⟩ = some (.slice B xs.length d) := (blk_cell (HRX.out _ HX5.out.b) 2).trans rfl
            have HSZ : Aside0 (gS < w5.heap.size ∧ wI.heap.size ≤ w5.heap.size ∧ wH.heap.size ≤ w5.heap.size ∧ W.heap.size < w5.heap.size ∧ gr < w5.heap.size) := ⟨by have h1 := blk_lt hsb; have h2 := HW2.out; have h3 := HX5.out.b.size; have h4 := HW3.out; have h5 := HH.out.b.size; have h6 := blk_lt HRB.out; omega⟩
            clear hsb hsk
            go_wp2_with ((with_reducible refine gate_builtin (b := .append) (xs := #[.tmp 135, .tmp 137]) rfl ?_); refine Kd.N_append k39 (w0 := wI) wI.heap.size ?hg (.tmp 135) (.tmp 137) 30 39 (.agg #[.slice none 0 0, .int .i64 0, .slice none 0 0, .slice none 0 0, .slice none 0 0]) 104 rfl ?ht (by as_aux_lemma => kernel_rfl) rfl (by decide) (by decide) (.slice B xs.length d) xs st [.slice (pickA (madeCalls ls.length) (some ⟨bC, 0, none⟩) (wrap64 (k.tdiv 4))) (pickS (madeCalls ls.length) (wrap64 (k.tdiv 4))).length (pickC (madeCalls ls.length) (madeCalls ls.length).length (wrap64 (k.tdiv 4))), .int .i64 p.f0, .slice P2 p.f1.length r2, .slice P3 p.f2.length r3, .slice P4 p.f3.length r4] (fun q => ((W.heap.size < q ∧ q ≠ gG) ∧ (q < wH.heap.size ∨ wI.heap.size ≤ q)) ∧ q ≠ gr) (okStp w2 bC bR gS) rfl ?hx HFS.out HOKS.out (fun q hq => by have h1 := HSZ.out; have h2 := HGG.out; exact ⟨⟨⟨by omega, by omega⟩, by omega⟩, by omega⟩) (Kd.N_below HRN.out HX5.out.b) (join_below HS.out.b HX5.out.b) HSZ.out.2.1 (by have h1 := HLS.out; omega) ?_; (case hg => rfl); (case hx => first | rfl | simp [Act.eval]); (case ht => exact Tryd.underlying30); intro v9 w9 hN hB hgr hat; obtain ⟨A9, c9, hv9⟩ := Kd.N_slice hN; subst hv9; have HXN := Aside0.mk hN; have HB0 := Aside0.mk hB; have HB9 := Aside0.mk ((hgr.block gr HSZ.out.2.2.2.2 (fun e => (HRN.out.1 gr e.symm).2 rfl)).trans (HRX.out _ HX5.out.b)); have y12 : World.cell? w9 ⟨gr, 2, none⟩ = some (.slice B xs.length d) := (blk_cell HB9.out 2).trans rfl; have z12 := blk_frozen HB9.out 2; clear hN hB hgr hat)
            have HS9 : Aside0 (MadeS W wH wI gG gr ls.length m l k (j + 1) (w9.setCell ⟨gr, 2, none⟩ (.slice A9 (xs.length + 1) c9))) := ⟨⟨⟨A9, xs.length + 1, c9, blk_put HB9.out 2 _ rfl, by rw [HXS.out]; have hN := HXN.out; rw [List.length_append] at hN; exact Kd.N_far (p := ⟨gr, 2, none⟩) hN (fun q hq => hq.2) _⟩, HB0.out.setCell (Nat.le_of_eq HGR.out) _⟩⟩
            go_roundw
            case rel => exact ⟨j + 1, by go_num, by omega, HS9⟩
            case measure => simp [intOf]; omega
          · skip
            obtain rfl : j = 0 := by omega
            by_cases hfr : freeOf k = true
            · skip
              rw [hfr] at x1
              have HC : Aside0 (0 < 0 ∨ freeOf k = true) := ⟨Or.inr hfr⟩
              clear hc hfr
              have y0 : World.cell? wc ⟨gS, 0, none⟩ = some (.slice none 0 0) := by obtain ⟨P2, r2, P3, r3, P4, r4, hsb, hsk⟩ := HX.out.h; exact (blk_cell hsb 0).trans rfl
              have z0 : World.frozen? wc ⟨gS, 0, none⟩ = false := by obtain ⟨P2, r2, P3, r3, P4, r4, hsb, hsk⟩ := HX.out.h; exact blk_frozen hsb 0
              go_wp2_with fail
              refine (pick_val (madeCalls ls.length) (some ⟨bC, 0, none⟩) (madeCalls ls.length).length _ _ (madeCalls_pos _) (Kd.F_max HCR.out.1.2.2) (Nat.le_refl _)).mono ?_
              rintro e wx ⟨rfl, hw⟩
              obtain rfl : wc = wx := hw.symm
              go_upto_region 20 with (fail)
              clear y0 z0
              obtain ⟨w5, hw5⟩ : ∃ x, wc.setCell ⟨gS, 0, none⟩ (.slice (pickA (madeCalls ls.length) (some ⟨bC, 0, none⟩) (wrap64 (k.tdiv 4))) (pickS (madeCalls ls.length) (wrap64 (k.tdiv 4))).length (pickC (madeCalls ls.length) (madeCalls ls.length).length (wrap64 (k.tdiv 4)))) = x := ⟨_, rfl⟩
              have HX5 : Aside0 (StepAt w2 bC bR gS (pickA (madeCalls ls.length) (some ⟨bC, 0, none⟩) (wrap64 (k.tdiv 4))) (pickS (madeCalls ls.length) (wrap64 (k.tdiv 4))).length (pickC (madeCalls ls.length) (madeCalls ls.length).length (wrap64 (k.tdiv 4))) p w5) := ⟨hw5 ▸ HX.out.put⟩
              rw [hw5]
              clear hw5
              obtain ⟨P2, r2, P3, r3, P4, r4, hsb, hsk⟩ := HX5.out.h
              have HFS : Aside0 (Kd.FK k39 w5 (okStp w2 bC bR gS) st [.slice (pickA (madeCalls ls.length) (some ⟨bC, 0, none⟩) (wrap64 (k.tdiv 4))) (pickS (madeCalls ls.length) (wrap64 (k.tdiv 4))).length (pickC (madeCalls ls.length) (madeCalls ls.length).length (wrap64 (k.tdiv 4))), .int .i64 p.f0, .slice P2 p.f1.length r2, .slice P3 p.f2.length r3, .slice P4 p.f3.length r4]) := ⟨by rw [HP.out, if_pos HC.out]; exact StepAt.fk hsb hsk (pick_le _ (madeCalls_pos _) (Nat.le_refl _)) (pick_F _ (madeCalls_pos _) (Nat.le_refl _) (Kd.F_mono (Kd.F_below (Kd.F_below (Kd.F_step HCR.out.1.2.2 (fun q ho hl => HI.out.k q hl (by rw [ho]; exact HCR.out.1.2.1))) HS.out.b) HX5.out.b) (fun q hq => ⟨Or.inl hq, by have h1 := HCB.out; have h2 := HW2.out; have h3 := HX5.out.ge; omega⟩)))⟩
              have HSB := Aside0.mk hsb
              have y0 : World.cell? w5 ⟨gS, 0, none⟩ = some (.slice (pickA (madeCalls ls.length) (some ⟨bC, 0, none⟩) (wrap64 (k.tdiv 4))) (pickS (madeCalls ls.length) (wrap64 (k.tdiv 4))).length (pickC (madeCalls ls.length) (madeCalls ls.length).length (wrap64 (k.tdiv 4)))) := (blk_cell HSB.out 0).trans rfl
              have y1 : World.cell? w5 ⟨gS, 1, none⟩ = some (.int .i64 p.f0) := (blk_cell HSB.out 1).trans rfl
              have y2 : World.cell? w5 ⟨gS, 2, none⟩ = some (.slice P2 p.f1.length r2) := (blk_cell HSB.out 2).trans rfl
              have y3 : World.cell? w5 ⟨gS, 3, none⟩ = some (.slice P3 p.f2.length r3) := (blk_cell HSB.out 3).trans rfl
              have y4 : World.cell? w5 ⟨gS, 4, none⟩ = some (.slice P4 p.f3.length r4) := (blk_cell HSB.out 4).trans rfl
              have x2 : World.cell? w5 ⟨gr, 2, none⟩ = some (.slice B xs.length d) := (blk_cell (HRX.out _ HX5.out.b) 2).trans rfl
              have HSZ : Aside0 (gS < w5.heap.size ∧ wI.heap.size ≤ w5.heap.size ∧ wH.heap.size ≤ w5.heap.size ∧ W.heap.size < w5.heap.size ∧ gr < w5.heap.size) := ⟨by have h1 := blk_lt hsb; have h2 := HW2.out; have h3 := HX5.out.b.size; have h4 := HW3.out; have h5 := HH.out.b.size; have h6 := blk_lt HRB.out; omega⟩
              clear hsb hsk
              go_wp2_with ((with_reducible refine gate_builtin (b := .append) (xs := #[.tmp 135, .tmp 137]) rfl ?_); refine Kd.N_append k39 (w0 := wI) wI.heap.size ?hg (.tmp 135) (.tmp 137) 30 39 (.agg #[.slice none 0 0, .int .i64 0, .slice none 0 0, .slice none 0 0, .slice none 0 0]) 104 rfl ?ht (by as_aux_lemma => kernel_rfl) rfl (by decide) (by decide) (.slice B xs.length d) xs st [.slice (pickA (madeCalls ls.length) (some ⟨bC, 0, none⟩) (wrap64 (k.tdiv 4))) (pickS (madeCalls ls.length) (wrap64 (k.tdiv 4))).length (pickC (madeCalls ls.length) (madeCalls ls.length).length (wrap64 (k.tdiv 4))), .int .i64 p.f0, .slice P2 p.f1.length r2, .slice P3 p.f2.length r3, .slice P4 p.f3.length r4] (fun q => ((W.heap.size < q ∧ q ≠ gG) ∧ (q < wH.heap.size ∨ wI.heap.size ≤ q)) ∧ q ≠ gr) (okStp w2 bC bR gS) rfl ?hx HFS.out HOKS.out (fun q hq => by have h1 := HSZ.out; have h2 := HGG.out; exact ⟨⟨⟨by omega, by omega⟩, by omega⟩, by omega⟩) (Kd.N_below HRN.out HX5.out.b) (join_below HS.out.b HX5.out.b) HSZ.out.2.1 (by have h1 := HLS.out; omega) ?_; (case hg => rfl); (case hx => first | rfl | simp [Act.eval]); (case ht => exact Tryd.underlying30); intro v9 w9 hN hB hgr hat; obtain ⟨A9, c9, hv9⟩ := Kd.N_slice hN; subst hv9; have HXN := Aside0.mk hN; have HB0 := Aside0.mk hB; have HB9 := Aside0.mk ((hgr.block gr HSZ.out.2.2.2.2 (fun e => (HRN.out.1 gr e.symm).2 rfl)).trans (HRX.out _ HX5.out.b)); have y12 : World.cell? w9 ⟨gr, 2, none⟩ = some (.slice B xs.length d) := (blk_cell HB9.out 2).trans rfl; have z12 := blk_frozen HB9.out 2; clear hN hB hgr hat)
              have HS9 : Aside0 (MadeS W wH wI gG gr ls.length m l k (0 + 1) (w9.setCell ⟨gr, 2, none⟩ (.slice A9 (xs.length + 1) c9))) := ⟨⟨⟨A9, xs.length + 1, c9, blk_put HB9.out 2 _ rfl, by rw [HXS.out]; have hN := HXN.out; rw [List.length_append] at hN; exact Kd.N_far (p := ⟨gr, 2, none⟩) hN (fun q hq => hq.2) _⟩, HB0.out.setCell (Nat.le_of_eq HGR.out) _⟩⟩
              go_roundw
              case rel => exact ⟨0 + 1, by go_num, by omega, HS9⟩
              case measure => simp [intOf]; omega
            · skip
              have HC : Aside0 (¬ (0 < 0 ∨ freeOf k = true)) := ⟨fun h => h.elim hc hfr⟩
              have hfr2 : freeOf k = false := by simpa using hfr
              rw [hfr2] at x1
              clear hc hfr hfr2
              go_upto_region 20 with (fail)
              clear x1
              obtain ⟨w5, rfl⟩ : ∃ x, x = wc := ⟨_, rfl⟩
              obtain ⟨P2, r2, P3, r3, P4, r4, hsb, hsk⟩ := HX.out.h
              have HFS : Aside0 (Kd.FK k39 w5 (okStp w2 bC bR gS) st [.slice none 0 0, .int .i64 p.f0, .slice P2 p.f1.length r2, .slice P3 p.f2.length r3, .slice P4 p.f3.length r4]) := ⟨by rw [HP.out, if_neg HC.out]; exact StepAt.fk (cl := []) hsb hsk (Nat.le_refl _) (Kd.F_nil _ _ _)⟩
              have HSB := Aside0.mk hsb
              have y0 : World.cell? w5 ⟨gS, 0, none⟩ = some (.slice none 0 0) := (blk_cell HSB.out 0).trans rfl
              have y1 : World.cell? w5 ⟨gS, 1, none⟩ = some (.int .i64 p.f0) := (blk_cell HSB.out 1).trans rfl
              have y2 : World.cell? w5 ⟨gS, 2, none⟩ = some (.slice P2 p.f1.length r2) := (blk_cell HSB.out 2).trans rfl
              have y3 : World.cell? w5 ⟨gS, 3, none⟩ = some (.slice P3 p.f2.length r3) := (blk_cell HSB.out 3).trans rfl
              have y4 : World.cell? w5 ⟨gS, 4, none⟩ = some (.slice P4 p.f3.length r4) := (blk_cell HSB.out 4).trans rfl
              have x2 : World.cell? w5 ⟨gr, 2, none⟩ = some (.slice B xs.length d) := (blk_cell (HRX.out _ HX.out.b) 2).trans rfl
              have HSZ : Aside0 (gS < w5.heap.size ∧ wI.heap.size ≤ w5.heap.size ∧ wH.heap.size ≤ w5.heap.size ∧ W.heap.size < w5.heap.size ∧ gr < w5.heap.size) := ⟨by have h1 := blk_lt hsb; have h2 := HW2.out; have h3 := HX.out.b.size; have h4 := HW3.out; have h5 := HH.out.b.size; have h6 := blk_lt HRB.out; omega⟩
              clear hsb hsk
              go_wp2_with ((with_reducible refine gate_builtin (b := .append) (xs := #[.tmp 135, .tmp 137]) rfl ?_); refine Kd.N_append k39 (w0 := wI) wI.heap.size ?hg (.tmp 135) (.tmp 137) 30 39 (.agg #[.slice none 0 0, .int .i64 0, .slice none 0 0, .slice none 0 0, .slice none 0 0]) 104 rfl ?ht (by as_aux_lemma => kernel_rfl) rfl (by decide) (by decide) (.slice B xs.length d) xs st [.slice none 0 0, .int .i64 p.f0, .slice P2 p.f1.length r2, .slice P3 p.f2.length r3, .slice P4 p.f3.length r4] (fun q => ((W.heap.size < q ∧ q ≠ gG) ∧ (q < wH.heap.size ∨ wI.heap.size ≤ q)) ∧ q ≠ gr) (okStp w2 bC bR gS) rfl ?hx HFS.out HOKS.out (fun q hq => by have h1 := HSZ.out; have h2 := HGG.out; exact ⟨⟨⟨by omega, by omega⟩, by omega⟩, by omega⟩) (Kd.N_below HRN.out HX.out.b) (join_below HS.out.b HX.out.b) HSZ.out.2.1 (by have h1 := HLS.out; omega) ?_; (case hg => rfl); (case hx => first | rfl | simp [Act.eval]); (case ht => exact Tryd.underlying30); intro v9 w9 hN hB hgr hat; obtain ⟨A9, c9, hv9⟩ := Kd.N_slice hN; subst hv9; have HXN := Aside0.mk hN; have HB0 := Aside0.mk hB; have HB9 := Aside0.mk ((hgr.block gr HSZ.out.2.2.2.2 (fun e => (HRN.out.1 gr e.symm).2 rfl)).trans (HRX.out _ HX.out.b)); have y12 : World.cell? w9 ⟨gr, 2, none⟩ = some (.slice B xs.length d) := (blk_cell HB9.out 2).trans rfl; have z12 := blk_frozen HB9.out 2; clear hN hB hgr hat)
              have HS9 : Aside0 (MadeS W wH wI gG gr ls.length m l k (0 + 1) (w9.setCell ⟨gr, 2, none⟩ (.slice A9 (xs.length + 1) c9))) := ⟨⟨⟨A9, xs.length + 1, c9, blk_put HB9.out 2 _ rfl, by rw [HXS.out]; have hN := HXN.out; rw [List.length_append] at hN; exact Kd.N_far (p := ⟨gr, 2, none⟩) hN (fun q hq => hq.2) _⟩, HB0.out.setCell (Nat.le_of_eq HGR.out) _⟩⟩
              go_roundw
              case rel => exact ⟨0 + 1, by go_num, by omega, HS9⟩
              case measure => simp [intOf]; omega
        · skip
          have e1 : decide ((j : Int) < (sn : Int)) = false := decide_eq_false (by omega)
          obtain rfl : j = sn := by omega
          go_wp2
          go_meet
          case rel => exact HS
      have HS := hcut
      clear hcut
      obtain ⟨B, r, d, hgb, hgn⟩ := HI.out.g
      obtain ⟨B', r', d', hrb, hrn⟩ := HS.out.g
      obtain ⟨rfl, hrd, _⟩ := Kd.N_reads' hrn
      obtain ⟨rfl, _, _⟩ := Kd.N_reads' hgn
      have HGB := Aside0.mk (blk_below hgb HS.out.b)
      have HGN := Aside0.mk (Kd.N_below hgn HS.out.b)
      have HRB := Aside0.mk hrb
      have HFR : Aside0 (Kd.FK kRul wc (fun q => ((W.heap.size < q ∧ q ≠ gG) ∧ (q < wH.heap.size ∨ wI.heap.size ≤ q)) ∧ q ≠ gr) ⟨10 + (m : Int), freeOf k, stepsTo ls.length l k sn⟩ [.int .i64 (10 + (m : Int)), .bool (freeOf k), .slice B' (stepsTo ls.length l k sn).length d']) := ⟨k32_mkF wc _ ⟨10 + (m : Int), freeOf k, stepsTo ls.length l k sn⟩ hrd (Kd.N_F hrn)⟩
      have HOK : Aside0 (∀ q, (((W.heap.size < q ∧ q ≠ gG) ∧ (q < wH.heap.size ∨ wI.heap.size ≤ q)) ∧ q ≠ gr) → (W.heap.size < q ∧ q ≠ gG) ∧ some q ≠ (Value.slice B (rulesTo ls.length ls m).length d).ownBlock) := ⟨fun q hq => ⟨hq.1.1, fun e => by have h1 := Kd.N_base hgn q e.symm; have h2 := Kd.N_lt hgn q e.symm; omega⟩⟩
      have HRM : Aside0 (rulesTo ls.length ls (m + 1) = rulesTo ls.length ls m ++ [⟨10 + (m : Int), freeOf k, stepsTo ls.length l k sn⟩]) := ⟨by rw [rulesTo_more HLM.out (by have := H2.out; omega) HK.out]; unfold ruleOf; rw [HSN.out]⟩
      have y0 : World.cell? wc ⟨gG, 0, none⟩ = some (.slice A4 n4 c4) := (blk_cell HGB.out 0).trans rfl
      have y1 : World.cell? wc ⟨gG, 1, none⟩ = some (.slice B (rulesTo ls.length ls m).length d) := (blk_cell HGB.out 1).trans rfl
      have x0 : World.cell? wc ⟨gr, 0, none⟩ = some (.int .i64 (10 + (m : Int))) := (blk_cell HRB.out 0).trans rfl
      have x1 : World.cell? wc ⟨gr, 1, none⟩ = some (.bool (freeOf k)) := (blk_cell HRB.out 1).trans rfl
      have x2 : World.cell? wc ⟨gr, 2, none⟩ = some (.slice B' (stepsTo ls.length l k sn).length d') := (blk_cell HRB.out 2).trans rfl
      have HGE : Aside0 (gG < wc.heap.size) := ⟨blk_lt HGB.out⟩
      have HWS : Aside0 (wH.heap.size ≤ wc.heap.size ∧ W.heap.size < wc.heap.size) := ⟨by have h1 := HI.out.s; have h2 := HS.out.b.size; have h3 := HI.out.b.size; have h4 := HW3.out; omega⟩
      clear hgb hgn hrb hrn hrd
      go_wp2_with ((with_reducible refine gate_builtin (b := .append) (xs := #[.tmp 141, .tmp 143]) rfl ?_); refine Kd.N_append kRul (w0 := wc) wH.heap.size ?hg (.tmp 141) (.tmp 143) 24 32 (.agg #[.int .i64 0, .bool false, .slice none 0 0]) 40 rfl ?ht (by as_aux_lemma => kernel_rfl) rfl (by decide) (by decide) (.slice B (rulesTo ls.length ls m).length d) (rulesTo ls.length ls m) ⟨10 + (m : Int), freeOf k, stepsTo ls.length l k sn⟩ [.int .i64 (10 + (m : Int)), .bool (freeOf k), .slice B' (stepsTo ls.length l k sn).length d'] (fun k => W.heap.size < k ∧ k ≠ gG) (fun q => ((W.heap.size < q ∧ q ≠ gG) ∧ (q < wH.heap.size ∨ wI.heap.size ≤ q)) ∧ q ≠ gr) rfl ?hx HFR.out HOK.out (fun q hq => by have := HGE.out; have := HWS.out; exact ⟨by omega, by omega⟩) HGN.out (Below.refl _ _) HWS.out.1 (by have h1 := rulesTo_len ls.length ls m; have h2 := HM.out; omega) ?_; (case hg => rfl); (case hx => first | rfl | simp [Act.eval]); (case ht => exact Tryd.underlying24); intro v9 w9 hN hB hgr hat; obtain ⟨A9, c9, hv9⟩ := Kd.N_slice hN; subst hv9; have HX := Aside0.mk hN; have HXG := Aside0.mk hgr; have HB9 := Aside0.mk ((hgr.block gG HGE.out (fun e => (HGN.out.1 gG e.symm).2 rfl)).trans HGB.out); have y11 : World.cell? w9 ⟨gG, 1, none⟩ = some (.slice B (rulesTo ls.length ls m).length d) := (blk_cell HB9.out 1).trans rfl; have z11 := blk_frozen HB9.out 1; clear hN hB hgr hat)
      have HB3w : Aside0 (Below w3.heap.size w3 w9) := ⟨Below.grown (join_below HI.out.b HS.out.b) HXG.out (Nat.le_trans HH.out.b.size HWS.out.1) (fun q hq => Nat.le_trans HH.out.b.size (Kd.N_base HGN.out q hq))⟩
      have HW9 : Aside0 (wH.heap.size ≤ w9.heap.size) := ⟨Nat.le_trans HWS.out.1 HXG.out.size⟩
      have HI9 : Aside0 (MadeI W w3 wH gG A4 n4 c4 (m + 1) ls (w9.setCell ⟨gG, 1, none⟩ (.slice A9 ((rulesTo ls.length ls m).length + 1) c9))) := ⟨⟨⟨A9, (rulesTo ls.length ls m).length + 1, c9, blk_put HB9.out 1 _ rfl, by rw [HRM.out]; have hN := HX.out; rw [List.length_append] at hN; exact Kd.N_far (p := ⟨gG, 1, none⟩) hN (fun q hq => hq.2) _⟩, fun q hq hne => (Below.heap_setCell w9 ⟨gG, 1, none⟩ _ q hne).trans ((HXG.out.block q (by have := HWS.out; omega) (fun e => by have := Kd.N_base HGN.out q e.symm; omega)).trans ((HS.out.b.block q (by have := HI.out.s; omega)).trans (HI.out.k q hq hne))), Nat.le_trans HW9.out ((Below.refl gG w9).setCell (Nat.le_refl _) _).size, HB3w.out.setCell HH.out.ge _⟩⟩
      go_roundw
      case rel => exact ⟨m + 1, by go_num, by have := HM.out; omega, by have := HM.out; omega, HI9⟩
      case measure => have := HM.out; simp [intOf]; omega
  · skip
    have HRR : Aside0 (rulesTo ls.length ls m = madeRs ls) := ⟨by unfold madeRs; rw [show min ls.length 3 = m by omega]⟩
    obtain ⟨B, r, d, hgb, hgn⟩ := HI.out.g
    have HGB := Aside0.mk hgb
    have HGN := Aside0.mk hgn
    have HBW := Aside0.mk (blk_below (blk_below (blk_below HBLK.out HB12.out) HB3.out) HI.out.b)
    have h8 : ls.length ≤ m ∨ (m < ls.length ∧ 3 ≤ m) := by omega
    clear hgb hgn hlt hm1 hm2
    rcases h8 with h8 | h8
    · as_aux_lemma =>
      have e1 : decide (m < ls.length) = false := decide_eq_false (by omega)
      go_upto_region 22 with (fail)
      clear e1 h8
      have y0 : World.cell? wr ⟨gG, 0, none⟩ = some (.slice A4 n4 c4) := (blk_cell HGB.out 0).trans rfl
      have x0 : World.cell? wr ⟨W.heap.size, 0, none⟩ = some (.slice none 0 0) := (blk_cell HBW.out 0).trans rfl
      have z0 := blk_frozen HBW.out 0
      have y1 : World.cell? wr ⟨gG, 1, none⟩ = some (.slice B r d) := (blk_cell HGB.out 1).trans rfl
      have x1 : World.cell? wr ⟨W.heap.size, 1, none⟩ = some (.slice none 0 0) := (blk_cell HBW.out 1).trans rfl
      have z1 := blk_frozen HBW.out 1
      go_wp2
      refine bodyPost_ret (results_cell_row rfl _ _ W.heap.size 26 #[.slice A4 n4 c4, .slice B r d] (0, 0) _ rfl (blk_put (blk_put HBW.out 0 (.slice A4 n4 c4) rfl) 1 (.slice B r d) rfl) Tryd.underlying26 rfl (by as_aux_lemma => kernel_rfl)) rfl ?_
      have N1 := Kd.N_step HT.out (fun k ho hlt => HI.out.k k hlt ho.2)
      have N2 := HGN.out
      rw [HRR.out] at N2
      exact ⟨_, _, rfl, Kd.N_mono (Kd.N_far (p := ⟨W.heap.size, 1, none⟩) (Kd.N_far (p := ⟨W.heap.size, 0, none⟩) N1 (fun q hq => Nat.ne_of_gt hq.1) _) (fun q hq => Nat.ne_of_gt hq.1) _) (fun q hq => Nat.le_of_lt hq.1), Kd.N_lower (Kd.N_mono (Kd.N_far (p := ⟨W.heap.size, 1, none⟩) (Kd.N_far (p := ⟨W.heap.size, 0, none⟩) N2 (fun q hq => Nat.ne_of_gt hq.1) _) (fun q hq => Nat.ne_of_gt hq.1) _) (fun q hq => Nat.le_of_lt hq.1)) (by have h1 := HW3.out; have h2 := HH.out.b.size; omega), ((join_below (join_below HB2.out HB3.out) HI.out.b).setCell (Nat.le_refl _) _).setCell (Nat.le_refl _) _⟩
    · as_aux_lemma =>
      have e1 : decide (m < ls.length) = true := decide_eq_true (by omega)
      have e2 : decide ((m : Int) < 3) = false := decide_eq_false (by omega)
      go_upto_region 22 with (fail)
      clear e1 e2 h8
      have y0 : World.cell? wr ⟨gG, 0, none⟩ = some (.slice A4 n4 c4) := (blk_cell HGB.out 0).trans rfl
      have x0 : World.cell? wr ⟨W.heap.size, 0, none⟩ = some (.slice none 0 0) := (blk_cell HBW.out 0).trans rfl
      have z0 := blk_frozen HBW.out 0
      have y1 : World.cell? wr ⟨gG, 1, none⟩ = some (.slice B r d) := (blk_cell HGB.out 1).trans rfl
      have x1 : World.cell? wr ⟨W.heap.size, 1, none⟩ = some (.slice none 0 0) := (blk_cell HBW.out 1).trans rfl
      have z1 := blk_frozen HBW.out 1
      go_wp2
      refine bodyPost_ret (results_cell_row rfl _ _ W.heap.size 26 #[.slice A4 n4 c4, .slice B r d] (0, 0) _ rfl (blk_put (blk_put HBW.out 0 (.slice A4 n4 c4) rfl) 1 (.slice B r d) rfl) Tryd.underlying26 rfl (by as_aux_lemma => kernel_rfl)) rfl ?_
      have N1 := Kd.N_step HT.out (fun k ho hlt => HI.out.k k hlt ho.2)
      have N2 := HGN.out
      rw [HRR.out] at N2
      exact ⟨_, _, rfl, Kd.N_mono (Kd.N_far (p := ⟨W.heap.size, 1, none⟩) (Kd.N_far (p := ⟨W.heap.size, 0, none⟩) N1 (fun q hq => Nat.ne_of_gt hq.1) _) (fun q hq => Nat.ne_of_gt hq.1) _) (fun q hq => Nat.le_of_lt hq.1), Kd.N_lower (Kd.N_mono (Kd.N_far (p := ⟨W.heap.size, 1, none⟩) (Kd.N_far (p := ⟨W.heap.size, 0, none⟩) N2 (fun q hq => Nat.ne_of_gt hq.1) _) (fun q hq => Nat.ne_of_gt hq.1) _) (fun q hq => Nat.le_of_lt hq.1)) (by have h1 := HW3.out; have h2 := HH.out.b.size; omega), ((join_below (join_below HB2.out HB3.out) HI.out.b).setCell (Nat.le_refl _) _).setCell (Nat.le_refl _) _⟩
end Go.Proofs.YthdfmbmbjpmlaaaDoor.Rn
end
section
set_option linter.unusedVariables false
set_option linter.unusedSimpArgs false
namespace Go.Proofs.YthdfmbmbjpmlaaaDoor.Rn
open Go Go.RowKit Go.Proofs.YthdfmbmbjpmlaaaDoorW.PrintWords Go.Proofs.YthdfmbmbjpmlaaaDoorW.PrintLast Go.Proofs.YthdfmbmbjpmlaaaDoorW.PrintMore
theorem u64_len {n : Nat} (h : n ≤ 3) : IntKind.u64.wrap (n : Int) = (n : Int) := by
 rw [IntKind.wrap_u64]
 omega
theorem wrap_q (x : Int) : IntKind.i64.wrap x = wrap64 x := by
 rw [IntKind.wrap_i64]
 unfold wrap64
 first | rfl | omega
set_option maxHeartbeats 40000000 in
set_option maxRecDepth 100000 in
theorem pats_any (ls : List (List Int)) (A : Option Addr) (c : Nat) (okA : Nat → Prop) (W : World) (hA : ∀ q, okA q → q < W.heap.size) (hL : Kd.F (Kd.slice 3 (Kd.int .i64)) W okA A ls.length ls) (hsm : ∀ l, l ∈ ls → l.length ≤ 1048576) (a b : Int) (hO : OwnAt W) :
 Calls Tryd.prog 3 #[.slice A ls.length c, .int .i64 a, .int .i64 b] W fun e W' => e = .returned (.bool true) ∧ Below W.heap.size W W' := by
 have HO := Aside0.mk hO
 have HMK := Aside0.mk (make_gen ls A c okA W hA hL hsm)
 clear hA hL hsm hO
 go_enter Tryd.func3, Tryd.ntmps3
 go_wp2_with fail
 refine HMK.out.mono ?_
 rintro e w1 ⟨v1, v2, rfl, hT, hR, hb⟩
 obtain ⟨AT, ct, rfl⟩ := Kd.N_slice hT
 obtain ⟨AR, cr, rfl⟩ := Kd.N_slice hR
 obtain ⟨T, hT0⟩ : ∃ x, madeTs ls.length = x := ⟨_, rfl⟩
 obtain ⟨R, hR0⟩ : ∃ x, madeRs ls = x := ⟨_, rfl⟩
 have HCHK : Aside0 (ChkC T R 0 0) := ⟨hT0 ▸ hR0 ▸ chk_gen ls⟩
 have HMS : Aside0 (∀ r, r ∈ R → 1 ≤ r.f2.length ∧ r.f2.length ≤ 2 ∧ ∀ s, s ∈ r.f2 → PatOk T s.f1) := ⟨fun r hr => hT0 ▸ made_steps (hR0 ▸ hr)⟩
 have hR3 : R.length ≤ 3 := hR0 ▸ made_rules_len ls
 rw [hT0] at hT ⊢
 rw [hR0] at hR ⊢
 have HT := Aside0.mk (Kd.N_reads' hT).2.2
 have HR := Aside0.mk (Kd.N_reads' hR).2.2
 have HN := Aside0.mk hR
 have HB1 := Aside0.mk hb
 clear hT hR hb hT0 hR0 HMK
 go_upto_region 2 with (fail)
 obtain ⟨b7, hb7⟩ : ∃ x, w1.heap.size = x := ⟨_, rfl⟩
 obtain ⟨w2, hw2⟩ : ∃ x, w1.alloc (.cells #[.slice AT T.length ct, .slice AR R.length cr] 26) = x := ⟨_, rfl⟩
 have HB2 : Aside0 (Below w1.heap.size w1 w2) := ⟨hw2 ▸ below1 _ _⟩
 have HK7 : Aside0 (w2.heap[b7]? = some (.cells #[.slice AT T.length ct, .slice AR R.length cr] 26 (0, 0))) := ⟨by rw [← hw2, ← hb7]; exact blk_new _ _⟩
 rw [hw2, hb7]
 clear hw2 hb7
 have HX : Aside0 (∀ w, Below w2.heap.size w2 w → w.cell? ⟨b7, 0, none⟩ = some (.slice AT T.length ct) ∧ w.cell? ⟨b7, 1, none⟩ = some (.slice AR R.length cr)) := ⟨fun w h => ⟨(blk_cell (blk_below HK7.out h) 0).trans rfl, (blk_cell (blk_below HK7.out h) 1).trans rfl⟩⟩
 have HG : Aside0 (∀ w, Below w2.heap.size w2 w → kTok.C w AT T.length T ∧ kRul.C w AR R.length R ∧ OwnAt w ∧ Below W.heap.size W w) := ⟨fun w h => ⟨Kd.C_below HT.out (join_below HB2.out h), Kd.C_below HR.out (join_below HB2.out h), Kd.C_below HO.out (join_below (join_below HB1.out HB2.out) h), join_below (join_below HB1.out HB2.out) h⟩⟩
 have x0 := (HX.out w2 (Below.refl _ _)).1
 have x1 := (HX.out w2 (Below.refl _ _)).2
 by_cases h0 : R.length = 0
 · skip
   obtain rfl : R = [] := List.eq_nil_of_length_eq_zero h0
   simp only [List.length_nil] at x1 ⊢
   go_wp2_with fail
   have hg := HG.out w2 (Below.refl _ _)
   refine (told_any chk_none chk_made chk_twice w2 hg.2.2.1).mono ?_
   rintro e w3 ⟨rfl, hb⟩
   have HB3 := Aside0.mk hb
   clear hb hg
   have x2 := (HX.out w3 HB3.out).1
   have x3 := (HX.out w3 HB3.out).2
   go_wp2_with fail
   have hg := HG.out w3 HB3.out
   refine (gmay_any T [] 0 0 HCHK.out AT ct AR cr w3 hg.1 hg.2.1 hg.2.2.1).mono ?_
   rintro e w4 ⟨rfl, hb⟩
   have HB4 := Aside0.mk (join_below HB3.out hb)
   clear hb hg x0 x1 x2 x3 h0
   rw [show ((0 : Int) == 0) = true from rfl]
   go_wp2
   go_ret
   exact ⟨rfl, (HG.out _ HB4.out).2.2.2⟩
 · skip
   have l0 : ((R.length : Int) == 0) = false := beq_eq_false_iff_ne.2 (by omega)
   go_wp2_with fail
   have hg := HG.out w2 (Below.refl _ _)
   refine (gmay_any T R 0 0 HCHK.out AT ct AR cr w2 hg.1 hg.2.1 hg.2.2.1).mono ?_
   rintro e w3 ⟨rfl, hb⟩
   have HB3 := Aside0.mk hb
   rw [show ((0 : Int) == 0) = true from rfl]
   clear hb hg x0 x1
   go_upto_region 4 with (fail)
   clear l0
   obtain ⟨gB, dB, hf, _, hg2, _⟩ := Kd.N_form HN.out (show 0 < R.length by omega)
   injection hf with hf1 hf2 hf3
   subst hf1 hf3
   have hia := pickI_lt (show 0 < R.length by omega) a
   have hib := pickI_lt (show 0 < R.length by omega) b
   have k0 := u64_len hR3
   have k1 := (wrap_q _).trans (pickI_eq (show 0 < R.length by omega) (by omega) a)
   have k2 := (wrap_q _).trans (pickI_eq (show 0 < R.length by omega) (by omega) b)
   generalize pickI R.length a = ia at hia k1
   generalize pickI R.length b = ib at hib k2
   obtain ⟨csa, _, hFKa, hcca, _⟩ := Kd.N_elem HN.out ⟨0, false, []⟩ ((ia : Nat) : Int) (by omega) (by omega)
   obtain ⟨csb, _, hFKb, hccb, _⟩ := Kd.N_elem HN.out ⟨0, false, []⟩ ((ib : Nat) : Int) (by omega) (by omega)
   rw [Int.toNat_natCast] at hFKa hcca hFKb hccb
   obtain ⟨ra, hra⟩ : ∃ x, R.getD ia ⟨0, false, []⟩ = x := ⟨_, rfl⟩
   obtain ⟨rb, hrb⟩ : ∃ x, R.getD ib ⟨0, false, []⟩ = x := ⟨_, rfl⟩
   rw [hra] at hFKa
   rw [hrb] at hFKb
   have hma := HMS.out ra (by rw [← hra, List.getD_eq_getElem?_getD, List.getElem?_eq_getElem hia]; exact List.getElem_mem hia)
   have hmb := HMS.out rb (by rw [← hrb, List.getD_eq_getElem?_getD, List.getElem?_eq_getElem hib]; exact List.getElem_mem hib)
   obtain ⟨Aa, pa, rfl, qa, Ca⟩ := k32_open (Kd.FK_now hFKa)
   obtain ⟨Ab, pb, rfl, qb, Cb⟩ := k32_open (Kd.FK_now hFKb)
   obtain ⟨ga, oa, rfl, _, hca⟩ := row_cells Ca (by omega) (by decide)
   obtain ⟨gb, ob, rfl, _, hcb⟩ := row_cells Cb (by omega) (by decide)
   obtain ⟨la, hla⟩ : ∃ x, ra.f2.length - 1 = x := ⟨_, rfl⟩
   obtain ⟨sa, hsa⟩ : ∃ s, ra.f2[la]? = some s := ⟨_, List.getElem?_eq_getElem (by omega)⟩
   obtain ⟨sb, hsb⟩ : ∃ s, rb.f2[0]? = some s := ⟨_, List.getElem?_eq_getElem (by omega)⟩
   obtain ⟨cp, _, hKa, hcpa⟩ := hca la sa hsa
   obtain ⟨cq, _, hKb, hcpb⟩ := hcb 0 sb hsb
   obtain ⟨A0, c0, A2, c2, A3, c3, A4, c4, rfl, _, _, e2, D2, e3, D3, e4, D4⟩ := k39_open hKa
   obtain ⟨B0, d0, B2, d2, B3, d3, B4, d4, rfl, _, _, f2, E2, f3, E3, f4, E4⟩ := k39_open hKb
   have HPA : Aside0 (kPt.K w1 sa.f1 [.int .i64 sa.f1.f0, .slice A2 sa.f1.f1.length c2, .slice A3 sa.f1.f2.length c3, .slice A4 sa.f1.f3.length c4]) := ⟨k37_mk w1 sa.f1 e2 D2 e3 D3 e4 D4⟩
   have HPB : Aside0 (kPt.K w1 sb.f1 [.int .i64 sb.f1.f0, .slice B2 sb.f1.f1.length d2, .slice B3 sb.f1.f2.length d3, .slice B4 sb.f1.f3.length d4]) := ⟨k37_mk w1 sb.f1 f2 E2 f3 E3 f4 E4⟩
   have HOA : Aside0 (PatOk T sa.f1) := ⟨hma.2.2 sa (List.mem_of_getElem? hsa)⟩
   have HCA := Aside0.mk (And.intro hcca (And.intro hccb (And.intro hcpa hcpb)))
   have na : 1 ≤ ra.f2.length := hma.1
   have nb : 1 ≤ rb.f2.length := hmb.1
   have na2 : ra.f2.length ≤ 2 := hma.2.1
   have HB23 := Aside0.mk (join_below HB2.out HB3.out)
   clear hFKa hFKb hra hrb hma hmb Ca Cb hca hcb hKa hKb D2 D3 D4 E2 E3 E4 e2 e3 e4 f2 f3 f4 hsa hsb hcca hccb hcpa hcpb hg2 qa qb
   have hund : undef = Value.tuple #[] := rfl
   obtain ⟨wd, hwd⟩ : ∃ x, w3.drew = x := ⟨_, rfl⟩
   have HDR : Aside0 (Below w3.heap.size w3 wd) := ⟨hwd ▸ below_drew1 (Below.refl _ _)⟩
   have HLW := HDR
   go_cut [8, 9] (fun v8 v9 w' => ∃ b8 b9, v8 = .pointer (some ⟨b8, 0, none⟩) ∧ v9 = .pointer (some ⟨b9, 0, none⟩) ∧ Aside0 (Below w3.heap.size w3 w' ∧ w'.heap[b8]? = some (.cells #[.int .i64 ra.f0, .bool ra.f1, .slice (some ⟨ga, oa, none⟩) ra.f2.length pa] 32 (0, 0)) ∧ w'.heap[b9]? = some (.cells #[.int .i64 rb.f0, .bool rb.f1, .slice (some ⟨gb, ob, none⟩) rb.f2.length pb] 32 (0, 0))))
   case first =>
    refine wp_region_held (S := fun w' => ∃ p : Later w3, w' = p.wx) (by kernel_rfl) ?_
    change wpAnyH _ _ _ _ _ _ _ _ (World.drew _)
    rw [hwd]
    clear hwd
    have x0 : ∀ p : Later w3, p.wx.cell? ⟨b7, 1, none⟩ = some (.slice (some ⟨gB, 0, none⟩) R.length cr) := fun p => (HX.out p.wx (join_below HB3.out p.below)).2
    have y0 : ∀ p : Later w3, p.wx.cell? ⟨gB, ia * 3 + 0, none⟩ = some (.int .i64 ra.f0) := fun p => cell_after p.below (cell_after HB23.out (HCA.out.1 0 _ rfl))
    have z0 : ∀ p : Later w3, p.wx.cell? ⟨gB, ib * 3 + 0, none⟩ = some (.int .i64 rb.f0) := fun p => cell_after p.below (cell_after HB23.out (HCA.out.2.1 0 _ rfl))
    have y1 : ∀ p : Later w3, p.wx.cell? ⟨gB, ia * 3 + 1, none⟩ = some (.bool ra.f1) := fun p => cell_after p.below (cell_after HB23.out (HCA.out.1 1 _ rfl))
    have z1 : ∀ p : Later w3, p.wx.cell? ⟨gB, ib * 3 + 1, none⟩ = some (.bool rb.f1) := fun p => cell_after p.below (cell_after HB23.out (HCA.out.2.1 1 _ rfl))
    have y2 : ∀ p : Later w3, p.wx.cell? ⟨gB, ia * 3 + 2, none⟩ = some (.slice (some ⟨ga, oa, none⟩) ra.f2.length pa) := fun p => cell_after p.below (cell_after HB23.out (HCA.out.1 2 _ rfl))
    have z2 : ∀ p : Later w3, p.wx.cell? ⟨gB, ib * 3 + 2, none⟩ = some (.slice (some ⟨gb, ob, none⟩) rb.f2.length pb) := fun p => cell_after p.below (cell_after HB23.out (HCA.out.2.1 2 _ rfl))
    simp only [Nat.add_zero] at y0 z0
    ((refine takeQ (i := 0) (by rfl) (by kernel_rfl) (by kernel_rfl) (by kernel_rfl) ?_ ?_ ?_); (focus first | exact fun _ _ _ _ h => h | exact fun _ _ _ _ h => HPQ.out _ _ _ _ (by rfl) h); (focus exact ⟨⟨_, HLW.out⟩, rfl⟩); intro K hK; go_simp; (with_reducible refine hK _ ?_); clear hK K)
    ((refine takeQ (i := 1) (by rfl) (by kernel_rfl) (by kernel_rfl) (by kernel_rfl) ?_ ?_ ?_); (focus first | exact fun _ _ _ _ h => h | exact fun _ _ _ _ h => HPQ.out _ _ _ _ (by rfl) h); (focus exact ⟨⟨_, HLW.out⟩, rfl⟩); intro K hK; go_simp; (with_reducible refine hK _ ?_); clear hK K)
    ((refine takeQ (i := 2) (by rfl) (by kernel_rfl) (by kernel_rfl) (by kernel_rfl) ?_ ?_ ?_); (focus first | exact fun _ _ _ _ h => h | exact fun _ _ _ _ h => HPQ.out _ _ _ _ (by rfl) h); (focus exact ⟨⟨_, HLW.out⟩, rfl⟩); intro K hK; go_simp; (with_reducible refine hK _ ?_); clear hK K)
    ((refine takeQ (i := 3) (by rfl) (by kernel_rfl) (by kernel_rfl) (by kernel_rfl) ?_ ?_ ?_); (focus first | exact fun _ _ _ _ h => h | exact fun _ _ _ _ h => HPQ.out _ _ _ _ (by rfl) h); (focus exact ⟨⟨_, HLW.out⟩, rfl⟩); intro K hK; go_simp; (with_reducible refine hK _ ?_); clear hK K)
    ((refine takeQ (i := 4) (by rfl) (by kernel_rfl) (by kernel_rfl) (by kernel_rfl) ?_ ?_ ?_); (focus first | exact fun _ _ _ _ h => h | exact fun _ _ _ _ h => HPQ.out _ _ _ _ (by rfl) h); (focus exact ⟨⟨_, HLW.out⟩, rfl⟩); intro K hK; go_simp; (with_reducible refine hK _ ?_); clear hK K)
    ((refine takeQ (i := 5) (by rfl) (by kernel_rfl) (by kernel_rfl) (by kernel_rfl) ?_ ?_ ?_); (focus first | exact fun _ _ _ _ h => h | exact fun _ _ _ _ h => HPQ.out _ _ _ _ (by rfl) h); (focus exact ⟨⟨_, HLW.out⟩, rfl⟩); intro K hK; go_simp; (with_reducible refine hK _ ?_); clear hK K)
    ((refine takeQ (i := 6) (by rfl) (by kernel_rfl) (by kernel_rfl) (by kernel_rfl) ?_ ?_ ?_); (focus first | exact fun _ _ _ _ h => h | exact fun _ _ _ _ h => HPQ.out _ _ _ _ (by rfl) h); (focus exact ⟨⟨_, HLW.out⟩, rfl⟩); intro K hK; go_simp; (with_reducible refine hK _ ?_); clear hK K)
    ((refine takeQ (i := 7) (by rfl) (by kernel_rfl) (by kernel_rfl) (by kernel_rfl) ?_ ?_ ?_); (focus first | exact fun _ _ _ _ h => h | exact fun _ _ _ _ h => HPQ.out _ _ _ _ (by rfl) h); (focus exact ⟨⟨_, HLW.out⟩, rfl⟩); intro K hK; go_simp; (with_reducible refine hK _ ?_); clear hK K)
    ((refine takeQ (i := 8) (by rfl) (by kernel_rfl) (by kernel_rfl) (by kernel_rfl) ?_ ?_ ?_); (focus first | exact fun _ _ _ _ h => h | exact fun _ _ _ _ h => HPQ.out _ _ _ _ (by rfl) h); (focus exact ⟨⟨_, HLW.out⟩, rfl⟩); intro K hK; go_simp; (with_reducible refine hK _ ?_); clear hK K)
    ((refine takeQ (i := 9) (by rfl) (by kernel_rfl) (by kernel_rfl) (by kernel_rfl) ?_ ?_ ?_); (focus first | exact fun _ _ _ _ h => h | exact fun _ _ _ _ h => HPQ.out _ _ _ _ (by rfl) h); (focus exact ⟨⟨_, HLW.out⟩, rfl⟩); intro K hK; go_simp; (with_reducible refine hK _ ?_); clear hK K)
    ((refine takeQ (i := 10) (by rfl) (by kernel_rfl) (by kernel_rfl) (by kernel_rfl) ?_ ?_ ?_); (focus first | exact fun _ _ _ _ h => h | exact fun _ _ _ _ h => HPQ.out _ _ _ _ (by rfl) h); (focus exact ⟨⟨_, HLW.out⟩, rfl⟩); intro K hK; go_simp; (with_reducible refine hK _ ?_); clear hK K)
    ((refine takeQ (i := 11) (by rfl) (by kernel_rfl) (by kernel_rfl) (by kernel_rfl) ?_ ?_ ?_); (focus first | exact fun _ _ _ _ h => h | exact fun _ _ _ _ h => HPQ.out _ _ _ _ (by rfl) h); (focus exact ⟨⟨_, HLW.out⟩, rfl⟩); intro K hK; go_simp; (with_reducible refine hK _ ?_); clear hK K)
    ((refine takeQ (i := 12) (by rfl) (by kernel_rfl) (by kernel_rfl) (by kernel_rfl) ?_ ?_ ?_); (focus first | exact fun _ _ _ _ h => h | exact fun _ _ _ _ h => HPQ.out _ _ _ _ (by rfl) h); (focus exact ⟨⟨_, HLW.out⟩, rfl⟩); intro K hK; go_simp; (with_reducible refine hK _ ?_); clear hK K)
    ((refine takeQ (i := 13) (by rfl) (by kernel_rfl) (by kernel_rfl) (by kernel_rfl) ?_ ?_ ?_); (focus first | exact fun _ _ _ _ h => h | exact fun _ _ _ _ h => HPQ.out _ _ _ _ (by rfl) h); (focus exact ⟨⟨_, HLW.out⟩, rfl⟩); intro K hK; go_simp; (with_reducible refine hK _ ?_); clear hK K)
    ((refine takeQ (i := 14) (by rfl) (by kernel_rfl) (by kernel_rfl) (by kernel_rfl) ?_ ?_ ?_); (focus first | exact fun _ _ _ _ h => h | exact fun _ _ _ _ h => HPQ.out _ _ _ _ (by rfl) h); (focus exact ⟨⟨_, HLW.out⟩, rfl⟩); intro K hK; go_simp; (with_reducible refine hK _ ?_); clear hK K)
    ((refine takeQ (i := 15) (by rfl) (by kernel_rfl) (by kernel_rfl) (by kernel_rfl) ?_ ?_ ?_); (focus first | exact fun _ _ _ _ h => h | exact fun _ _ _ _ h => HPQ.out _ _ _ _ (by rfl) h); (focus exact ⟨⟨_, HLW.out⟩, rfl⟩); intro K hK; go_simp; (with_reducible refine hK _ ?_); clear hK K)
    ((refine takeQ (i := 16) (by rfl) (by kernel_rfl) (by kernel_rfl) (by kernel_rfl) ?_ ?_ ?_); (focus first | exact fun _ _ _ _ h => h | exact fun _ _ _ _ h => HPQ.out _ _ _ _ (by rfl) h); (focus exact ⟨⟨_, HLW.out⟩, rfl⟩); intro K hK; go_simp; (with_reducible refine hK _ ?_); clear hK K)
    ((refine takeQ (i := 17) (by rfl) (by kernel_rfl) (by kernel_rfl) (by kernel_rfl) ?_ ?_ ?_); (focus first | exact fun _ _ _ _ h => h | exact fun _ _ _ _ h => HPQ.out _ _ _ _ (by rfl) h); (focus exact ⟨⟨_, HLW.out⟩, rfl⟩); intro K hK; go_simp; (with_reducible refine hK _ ?_); clear hK K)
    ((refine takeQ (i := 18) (by rfl) (by kernel_rfl) (by kernel_rfl) (by kernel_rfl) ?_ ?_ ?_); (focus first | exact fun _ _ _ _ h => h | exact fun _ _ _ _ h => HPQ.out _ _ _ _ (by rfl) h); (focus exact ⟨⟨_, HLW.out⟩, rfl⟩); intro K hK; go_simp; (with_reducible refine hK _ ?_); clear hK K)
    ((refine takeQ (i := 19) (by rfl) (by kernel_rfl) (by kernel_rfl) (by kernel_rfl) ?_ ?_ ?_); (focus first | exact fun _ _ _ _ h => h | exact fun _ _ _ _ h => HPQ.out _ _ _ _ (by rfl) h); (focus exact ⟨⟨_, HLW.out⟩, rfl⟩); intro K hK; go_simp; (with_reducible refine hK _ ?_); clear hK K)
    ((refine takeQ (i := 20) (by rfl) (by kernel_rfl) (by kernel_rfl) (by kernel_rfl) ?_ ?_ ?_); (focus first | exact fun _ _ _ _ h => h | exact fun _ _ _ _ h => HPQ.out _ _ _ _ (by rfl) h); (focus exact ⟨⟨_, HLW.out⟩, rfl⟩); intro K hK; go_simp; (with_reducible refine hK _ ?_); clear hK K)
    ((refine takeQ (i := 21) (by rfl) (by kernel_rfl) (by kernel_rfl) (by kernel_rfl) ?_ ?_ ?_); (focus first | exact fun _ _ _ _ h => h | exact fun _ _ _ _ h => HPQ.out _ _ _ _ (by rfl) h); (focus exact ⟨⟨_, HLW.out⟩, rfl⟩); intro K hK; go_simp; (with_reducible refine hK _ ?_); clear hK K)
    ((refine takeQ (i := 22) (by rfl) (by kernel_rfl) (by kernel_rfl) (by kernel_rfl) ?_ ?_ ?_); (focus first | exact fun _ _ _ _ h => h | exact fun _ _ _ _ h => HPQ.out _ _ _ _ (by rfl) h); (focus exact ⟨⟨_, HLW.out⟩, rfl⟩); intro K hK; go_simp; (with_reducible refine hK _ ?_); clear hK K)
    ((refine takeQ (i := 23) (by rfl) (by kernel_rfl) (by kernel_rfl) (by kernel_rfl) ?_ ?_ ?_); (focus first | exact fun _ _ _ _ h => h | exact fun _ _ _ _ h => HPQ.out _ _ _ _ (by rfl) h); (focus exact ⟨⟨_, HLW.out⟩, rfl⟩); intro K hK; go_simp; (with_reducible refine hK _ ?_); clear hK K)
    refine hall2 (i := 24) (j := 25) (by kernel_rfl) (by rfl) (by rfl) (fun K hK => ?_) (fun K hK => ?_)
    · skip
      go_simp
      obtain ⟨u1, hv⟩ : ∃ x, wd.alloc (.cells #[.int .i64 0, .bool false, .slice none 0 0] 32) = x := ⟨_, rfl⟩
      rw [hv]
      obtain ⟨b8, hg⟩ : ∃ x, wd.heap.size = x := ⟨_, rfl⟩
      rw [hg]
      have Kb8 : Aside0 (u1.heap[b8]? = some (.cells #[.int .i64 0, .bool false, .slice none 0 0] 32 (0, 0))) := ⟨by rw [← hv, ← hg]; exact blk_new _ _⟩
      have ST : Aside0 (Below wd.heap.size wd u1) := ⟨hv ▸ below1 _ _⟩
      have Gb8 : Aside0 (w3.heap.size ≤ b8) := ⟨hg ▸ HLW.out.size⟩
      clear hv hg
      have HLW := Aside0.mk (join_below HLW.out ST.out)
      refine hK _ _ ⟨⟨_, HLW.out⟩, rfl⟩ ?_
      clear hK K ST
      refine hall1 (i := 25) (by kernel_rfl) (by rfl) (fun K hK => ?_)
      go_simp
      obtain ⟨u2, hv⟩ : ∃ x, u1.alloc (.cells #[.int .i64 0, .bool false, .slice none 0 0] 32) = x := ⟨_, rfl⟩
      rw [hv]
      obtain ⟨b9, hg⟩ : ∃ x, u1.heap.size = x := ⟨_, rfl⟩
      rw [hg]
      have Kb9 : Aside0 (u2.heap[b9]? = some (.cells #[.int .i64 0, .bool false, .slice none 0 0] 32 (0, 0))) := ⟨by rw [← hv, ← hg]; exact blk_new _ _⟩
      have ST : Aside0 (Below u1.heap.size u1 u2) := ⟨hv ▸ below1 _ _⟩
      have Gb9 : Aside0 (w3.heap.size ≤ b9) := ⟨hg ▸ HLW.out.size⟩
      have NE : Aside0 (b8 ≠ b9) := ⟨by have h := blk_lt Kb8.out; omega⟩
      have Kb8 := Aside0.mk (blk_below Kb8.out ST.out)
      clear hv hg
      have HLW := Aside0.mk (join_below HLW.out ST.out)
      refine hK _ _ ⟨⟨_, HLW.out⟩, rfl⟩ ?_
      clear hK K ST
      have y0 : World.cell? u2 ⟨b8, 0, none⟩ = some (.int .i64 0) := (blk_cell Kb8.out 0).trans rfl
      have z0 := blk_frozen Kb8.out 0
      have y1 : World.cell? u2 ⟨b8, 1, none⟩ = some (.bool false) := (blk_cell Kb8.out 1).trans rfl
      have z1 := blk_frozen Kb8.out 1
      have y2 : World.cell? u2 ⟨b8, 2, none⟩ = some (.slice none 0 0) := (blk_cell Kb8.out 2).trans rfl
      have z2 := blk_frozen Kb8.out 2
      refine hall1 (i := 26) (by kernel_rfl) (by rfl) (fun K hK => ?_)
      go_simp
      clear y0 z0 y1 z1 y2 z2
      obtain ⟨u3, hv⟩ : ∃ x, (World.setCell (World.setCell (World.setCell u2 ⟨b8, 0, none⟩ (.int .i64 ra.f0)) ⟨b8, 1, none⟩ (.bool ra.f1)) ⟨b8, 2, none⟩ (.slice (some ⟨ga, oa, none⟩) ra.f2.length pa)) = x := ⟨_, rfl⟩
      have Kb8 : Aside0 (u3.heap[b8]? = some (.cells #[.int .i64 ra.f0, .bool ra.f1, .slice (some ⟨ga, oa, none⟩) ra.f2.length pa] 32 (0, 0))) := ⟨hv ▸ (blk_put (blk_put (blk_put Kb8.out 0 (.int .i64 ra.f0) rfl) 1 (.bool ra.f1) rfl) 2 (.slice (some ⟨ga, oa, none⟩) ra.f2.length pa) rfl)⟩
      have HLW : Aside0 (Below w3.heap.size w3 u3) := ⟨hv ▸ (((HLW.out.setCell Gb8.out (.int .i64 ra.f0)).setCell Gb8.out (.bool ra.f1)).setCell Gb8.out (.slice (some ⟨ga, oa, none⟩) ra.f2.length pa))⟩
      have Kb9 : Aside0 (u3.heap[b9]? = some (.cells #[.int .i64 0, .bool false, .slice none 0 0] 32 (0, 0))) := ⟨by have HNE : b9 ≠ b8 := (by have h := NE.out; omega); exact hv ▸ (blk_far (blk_far (blk_far Kb9.out HNE (.int .i64 ra.f0)) HNE (.bool ra.f1)) HNE (.slice (some ⟨ga, oa, none⟩) ra.f2.length pa))⟩
      rw [hv]
      clear hv
      refine hK _ _ ⟨⟨_, HLW.out⟩, rfl⟩ ?_
      clear hK K
      have y0 : World.cell? u3 ⟨b9, 0, none⟩ = some (.int .i64 0) := (blk_cell Kb9.out 0).trans rfl
      have z0 := blk_frozen Kb9.out 0
      have y1 : World.cell? u3 ⟨b9, 1, none⟩ = some (.bool false) := (blk_cell Kb9.out 1).trans rfl
      have z1 := blk_frozen Kb9.out 1
      have y2 : World.cell? u3 ⟨b9, 2, none⟩ = some (.slice none 0 0) := (blk_cell Kb9.out 2).trans rfl
      have z2 := blk_frozen Kb9.out 2
      refine hall1 (i := 27) (by kernel_rfl) (by rfl) (fun K hK => ?_)
      go_simp
      clear y0 z0 y1 z1 y2 z2
      obtain ⟨u4, hv⟩ : ∃ x, (World.setCell (World.setCell (World.setCell u3 ⟨b9, 0, none⟩ (.int .i64 rb.f0)) ⟨b9, 1, none⟩ (.bool rb.f1)) ⟨b9, 2, none⟩ (.slice (some ⟨gb, ob, none⟩) rb.f2.length pb)) = x := ⟨_, rfl⟩
      have Kb9 : Aside0 (u4.heap[b9]? = some (.cells #[.int .i64 rb.f0, .bool rb.f1, .slice (some ⟨gb, ob, none⟩) rb.f2.length pb] 32 (0, 0))) := ⟨hv ▸ (blk_put (blk_put (blk_put Kb9.out 0 (.int .i64 rb.f0) rfl) 1 (.bool rb.f1) rfl) 2 (.slice (some ⟨gb, ob, none⟩) rb.f2.length pb) rfl)⟩
      have HLW : Aside0 (Below w3.heap.size w3 u4) := ⟨hv ▸ (((HLW.out.setCell Gb9.out (.int .i64 rb.f0)).setCell Gb9.out (.bool rb.f1)).setCell Gb9.out (.slice (some ⟨gb, ob, none⟩) rb.f2.length pb))⟩
      have Kb8 : Aside0 (u4.heap[b8]? = some (.cells #[.int .i64 ra.f0, .bool ra.f1, .slice (some ⟨ga, oa, none⟩) ra.f2.length pa] 32 (0, 0))) := ⟨by have HNE : b8 ≠ b9 := (by have h := NE.out; omega); exact hv ▸ (blk_far (blk_far (blk_far Kb8.out HNE (.int .i64 rb.f0)) HNE (.bool rb.f1)) HNE (.slice (some ⟨gb, ob, none⟩) rb.f2.length pb))⟩
      rw [hv]
      clear hv
      refine hK _ _ ⟨⟨_, HLW.out⟩, rfl⟩ ?_
      clear hK K
      refine wpAnyH_done (by kernel_rfl) ?_ _
      go_wp2
      go_meet
      case rel => exact ⟨b8, b9, rfl, rfl, ⟨⟨HLW.out, Kb8.out, Kb9.out⟩⟩⟩
    · skip
      go_simp
      obtain ⟨u1, hv⟩ : ∃ x, wd.alloc (.cells #[.int .i64 0, .bool false, .slice none 0 0] 32) = x := ⟨_, rfl⟩
      rw [hv]
      obtain ⟨b9, hg⟩ : ∃ x, wd.heap.size = x := ⟨_, rfl⟩
      rw [hg]
      have Kb9 : Aside0 (u1.heap[b9]? = some (.cells #[.int .i64 0, .bool false, .slice none 0 0] 32 (0, 0))) := ⟨by rw [← hv, ← hg]; exact blk_new _ _⟩
      have ST : Aside0 (Below wd.heap.size wd u1) := ⟨hv ▸ below1 _ _⟩
      have Gb9 : Aside0 (w3.heap.size ≤ b9) := ⟨hg ▸ HLW.out.size⟩
      clear hv hg
      have HLW := Aside0.mk (join_below HLW.out ST.out)
      refine hK _ _ ⟨⟨_, HLW.out⟩, rfl⟩ ?_
      clear hK K ST
      refine hall1 (i := 24) (by kernel_rfl) (by rfl) (fun K hK => ?_)
      go_simp
      obtain ⟨u2, hv⟩ : ∃ x, u1.alloc (.cells #[.int .i64 0, .bool false, .slice none 0 0] 32) = x := ⟨_, rfl⟩
      rw [hv]
      obtain ⟨b8, hg⟩ : ∃ x, u1.heap.size = x := ⟨_, rfl⟩
      rw [hg]
      have Kb8 : Aside0 (u2.heap[b8]? = some (.cells #[.int .i64 0, .bool false, .slice none 0 0] 32 (0, 0))) := ⟨by rw [← hv, ← hg]; exact blk_new _ _⟩
      have ST : Aside0 (Below u1.heap.size u1 u2) := ⟨hv ▸ below1 _ _⟩
      have Gb8 : Aside0 (w3.heap.size ≤ b8) := ⟨hg ▸ HLW.out.size⟩
      have NE : Aside0 (b9 ≠ b8) := ⟨by have h := blk_lt Kb9.out; omega⟩
      have Kb9 := Aside0.mk (blk_below Kb9.out ST.out)
      clear hv hg
      have HLW := Aside0.mk (join_below HLW.out ST.out)
      refine hK _ _ ⟨⟨_, HLW.out⟩, rfl⟩ ?_
      clear hK K ST
      have y0 : World.cell? u2 ⟨b8, 0, none⟩ = some (.int .i64 0) := (blk_cell Kb8.out 0).trans rfl
      have z0 := blk_frozen Kb8.out 0
      have y1 : World.cell? u2 ⟨b8, 1, none⟩ = some (.bool false) := (blk_cell Kb8.out 1).trans rfl
      have z1 := blk_frozen Kb8.out 1
      have y2 : World.cell? u2 ⟨b8, 2, none⟩ = some (.slice none 0 0) := (blk_cell Kb8.out 2).trans rfl
      have z2 := blk_frozen Kb8.out 2
      refine hall1 (i := 26) (by kernel_rfl) (by rfl) (fun K hK => ?_)
      go_simp
      clear y0 z0 y1 z1 y2 z2
      obtain ⟨u3, hv⟩ : ∃ x, (World.setCell (World.setCell (World.setCell u2 ⟨b8, 0, none⟩ (.int .i64 ra.f0)) ⟨b8, 1, none⟩ (.bool ra.f1)) ⟨b8, 2, none⟩ (.slice (some ⟨ga, oa, none⟩) ra.f2.length pa)) = x := ⟨_, rfl⟩
      have Kb8 : Aside0 (u3.heap[b8]? = some (.cells #[.int .i64 ra.f0, .bool ra.f1, .slice (some ⟨ga, oa, none⟩) ra.f2.length pa] 32 (0, 0))) := ⟨hv ▸ (blk_put (blk_put (blk_put Kb8.out 0 (.int .i64 ra.f0) rfl) 1 (.bool ra.f1) rfl) 2 (.slice (some ⟨ga, oa, none⟩) ra.f2.length pa) rfl)⟩
      have HLW : Aside0 (Below w3.heap.size w3 u3) := ⟨hv ▸ (((HLW.out.setCell Gb8.out (.int .i64 ra.f0)).setCell Gb8.out (.bool ra.f1)).setCell Gb8.out (.slice (some ⟨ga, oa, none⟩) ra.f2.length pa))⟩
      have Kb9 : Aside0 (u3.heap[b9]? = some (.cells #[.int .i64 0, .bool false, .slice none 0 0] 32 (0, 0))) := ⟨by have HNE : b9 ≠ b8 := (by have h := NE.out; omega); exact hv ▸ (blk_far (blk_far (blk_far Kb9.out HNE (.int .i64 ra.f0)) HNE (.bool ra.f1)) HNE (.slice (some ⟨ga, oa, none⟩) ra.f2.length pa))⟩
      rw [hv]
      clear hv
      refine hK _ _ ⟨⟨_, HLW.out⟩, rfl⟩ ?_
      clear hK K
      have y0 : World.cell? u3 ⟨b9, 0, none⟩ = some (.int .i64 0) := (blk_cell Kb9.out 0).trans rfl
      have z0 := blk_frozen Kb9.out 0
      have y1 : World.cell? u3 ⟨b9, 1, none⟩ = some (.bool false) := (blk_cell Kb9.out 1).trans rfl
      have z1 := blk_frozen Kb9.out 1
      have y2 : World.cell? u3 ⟨b9, 2, none⟩ = some (.slice none 0 0) := (blk_cell Kb9.out 2).trans rfl
      have z2 := blk_frozen Kb9.out 2
      refine hall1 (i := 27) (by kernel_rfl) (by rfl) (fun K hK => ?_)
      go_simp
      clear y0 z0 y1 z1 y2 z2
      obtain ⟨u4, hv⟩ : ∃ x, (World.setCell (World.setCell (World.setCell u3 ⟨b9, 0, none⟩ (.int .i64 rb.f0)) ⟨b9, 1, none⟩ (.bool rb.f1)) ⟨b9, 2, none⟩ (.slice (some ⟨gb, ob, none⟩) rb.f2.length pb)) = x := ⟨_, rfl⟩
      have Kb9 : Aside0 (u4.heap[b9]? = some (.cells #[.int .i64 rb.f0, .bool rb.f1, .slice (some ⟨gb, ob, none⟩) rb.f2.length pb] 32 (0, 0))) := ⟨hv ▸ (blk_put (blk_put (blk_put Kb9.out 0 (.int .i64 rb.f0) rfl) 1 (.bool rb.f1) rfl) 2 (.slice (some ⟨gb, ob, none⟩) rb.f2.length pb) rfl)⟩
      have HLW : Aside0 (Below w3.heap.size w3 u4) := ⟨hv ▸ (((HLW.out.setCell Gb9.out (.int .i64 rb.f0)).setCell Gb9.out (.bool rb.f1)).setCell Gb9.out (.slice (some ⟨gb, ob, none⟩) rb.f2.length pb))⟩
      have Kb8 : Aside0 (u4.heap[b8]? = some (.cells #[.int .i64 ra.f0, .bool ra.f1, .slice (some ⟨ga, oa, none⟩) ra.f2.length pa] 32 (0, 0))) := ⟨by have HNE : b8 ≠ b9 := (by have h := NE.out; omega); exact hv ▸ (blk_far (blk_far (blk_far Kb8.out HNE (.int .i64 rb.f0)) HNE (.bool rb.f1)) HNE (.slice (some ⟨gb, ob, none⟩) rb.f2.length pb))⟩
      rw [hv]
      clear hv
      refine hK _ _ ⟨⟨_, HLW.out⟩, rfl⟩ ?_
      clear hK K
      refine wpAnyH_done (by kernel_rfl) ?_ _
      go_wp2
      go_meet
      case rel => exact ⟨b8, b9, rfl, rfl, ⟨⟨HLW.out, Kb8.out, Kb9.out⟩⟩⟩
   obtain ⟨b8, b9, rfl, rfl, HC4⟩ := hcut
   obtain ⟨w4, rfl⟩ : ∃ x, x = wc := ⟨_, rfl⟩
   have k3 : IntKind.i64.wrap ((ra.f2.length : Int) - 1) = (la : Int) := by rw [IntKind.wrap_i64]; omega
   have hla2 : la < ra.f2.length := by omega
   have nb0 : 0 < rb.f2.length := by omega
   clear k0 k1 k2 hia hib hwd hla
   go_upto_region 5 with (fail)
   obtain ⟨wd, hwd⟩ : ∃ x, w4.drew = x := ⟨_, rfl⟩
   have HDR : Aside0 (Below w4.heap.size w4 wd) := ⟨hwd ▸ below_drew1 (Below.refl _ _)⟩
   have HLW := HDR
   have HB24 := Aside0.mk (join_below HB23.out HC4.out.1)
   go_cut [10, 11] (fun v10 v11 w' => ∃ b10 b11, v10 = .pointer (some ⟨b10, 0, none⟩) ∧ v11 = .pointer (some ⟨b11, 0, none⟩) ∧ Aside0 (Below w4.heap.size w4 w' ∧ w'.heap[b10]? = some (.cells #[.int .i64 sa.f1.f0, .slice A2 sa.f1.f1.length c2, .slice A3 sa.f1.f2.length c3, .slice A4 sa.f1.f3.length c4] 37 (0, 0)) ∧ w'.heap[b11]? = some (.cells #[.int .i64 sb.f1.f0, .slice B2 sb.f1.f1.length d2, .slice B3 sb.f1.f2.length d3, .slice B4 sb.f1.f3.length d4] 37 (0, 0))))
   case first =>
    refine wp_region_held (S := fun w' => ∃ p : Later w4, w' = p.wx) (by kernel_rfl) ?_
    change wpAnyH _ _ _ _ _ _ _ _ (World.drew _)
    rw [hwd]
    clear hwd
    have x0 : ∀ p : Later w4, p.wx.cell? ⟨b8, 2, none⟩ = some (.slice (some ⟨ga, oa, none⟩) ra.f2.length pa) := fun p => (blk_cell (blk_below HC4.out.2.1 p.below) 2).trans rfl
    have x1 : ∀ p : Later w4, p.wx.cell? ⟨b9, 2, none⟩ = some (.slice (some ⟨gb, ob, none⟩) rb.f2.length pb) := fun p => (blk_cell (blk_below HC4.out.2.2 p.below) 2).trans rfl
    have y0 : ∀ p : Later w4, p.wx.cell? ⟨ga, oa + la * 5 + 1, none⟩ = some (.int .i64 sa.f1.f0) := fun p => cell_after p.below (cell_after HB24.out (HCA.out.2.2.1 1 _ rfl))
    have z0 : ∀ p : Later w4, p.wx.cell? ⟨gb, ob + 1, none⟩ = some (.int .i64 sb.f1.f0) := fun p => by have h := cell_after p.below (cell_after HB24.out (HCA.out.2.2.2 1 _ rfl)); rwa [Nat.zero_mul, Nat.add_zero] at h
    have y1 : ∀ p : Later w4, p.wx.cell? ⟨ga, oa + la * 5 + 2, none⟩ = some (.slice A2 sa.f1.f1.length c2) := fun p => cell_after p.below (cell_after HB24.out (HCA.out.2.2.1 2 _ rfl))
    have z1 : ∀ p : Later w4, p.wx.cell? ⟨gb, ob + 2, none⟩ = some (.slice B2 sb.f1.f1.length d2) := fun p => by have h := cell_after p.below (cell_after HB24.out (HCA.out.2.2.2 2 _ rfl)); rwa [Nat.zero_mul, Nat.add_zero] at h
    have y2 : ∀ p : Later w4, p.wx.cell? ⟨ga, oa + la * 5 + 3, none⟩ = some (.slice A3 sa.f1.f2.length c3) := fun p => cell_after p.below (cell_after HB24.out (HCA.out.2.2.1 3 _ rfl))
    have z2 : ∀ p : Later w4, p.wx.cell? ⟨gb, ob + 3, none⟩ = some (.slice B3 sb.f1.f2.length d3) := fun p => by have h := cell_after p.below (cell_after HB24.out (HCA.out.2.2.2 3 _ rfl)); rwa [Nat.zero_mul, Nat.add_zero] at h
    have y3 : ∀ p : Later w4, p.wx.cell? ⟨ga, oa + la * 5 + 4, none⟩ = some (.slice A4 sa.f1.f3.length c4) := fun p => cell_after p.below (cell_after HB24.out (HCA.out.2.2.1 4 _ rfl))
    have z3 : ∀ p : Later w4, p.wx.cell? ⟨gb, ob + 4, none⟩ = some (.slice B4 sb.f1.f3.length d4) := fun p => by have h := cell_after p.below (cell_after HB24.out (HCA.out.2.2.2 4 _ rfl)); rwa [Nat.zero_mul, Nat.add_zero] at h
    ((refine takeQ (i := 0) (by rfl) (by kernel_rfl) (by kernel_rfl) (by kernel_rfl) ?_ ?_ ?_); (focus first | exact fun _ _ _ _ h => h | exact fun _ _ _ _ h => HPQ.out _ _ _ _ (by rfl) h); (focus exact ⟨⟨_, HLW.out⟩, rfl⟩); intro K hK; go_simp; (with_reducible refine hK _ ?_); clear hK K)
    ((refine takeQ (i := 1) (by rfl) (by kernel_rfl) (by kernel_rfl) (by kernel_rfl) ?_ ?_ ?_); (focus first | exact fun _ _ _ _ h => h | exact fun _ _ _ _ h => HPQ.out _ _ _ _ (by rfl) h); (focus exact ⟨⟨_, HLW.out⟩, rfl⟩); intro K hK; go_simp; (with_reducible refine hK _ ?_); clear hK K)
    ((refine takeQ (i := 2) (by rfl) (by kernel_rfl) (by kernel_rfl) (by kernel_rfl) ?_ ?_ ?_); (focus first | exact fun _ _ _ _ h => h | exact fun _ _ _ _ h => HPQ.out _ _ _ _ (by rfl) h); (focus exact ⟨⟨_, HLW.out⟩, rfl⟩); intro K hK; go_simp; (with_reducible refine hK _ ?_); clear hK K)
    ((refine takeQ (i := 3) (by rfl) (by kernel_rfl) (by kernel_rfl) (by kernel_rfl) ?_ ?_ ?_); (focus first | exact fun _ _ _ _ h => h | exact fun _ _ _ _ h => HPQ.out _ _ _ _ (by rfl) h); (focus exact ⟨⟨_, HLW.out⟩, rfl⟩); intro K hK; go_simp; (with_reducible refine hK _ ?_); clear hK K)
    ((refine takeQ (i := 4) (by rfl) (by kernel_rfl) (by kernel_rfl) (by kernel_rfl) ?_ ?_ ?_); (focus first | exact fun _ _ _ _ h => h | exact fun _ _ _ _ h => HPQ.out _ _ _ _ (by rfl) h); (focus exact ⟨⟨_, HLW.out⟩, rfl⟩); intro K hK; go_simp; (with_reducible refine hK _ ?_); clear hK K)
    ((refine takeQ (i := 5) (by rfl) (by kernel_rfl) (by kernel_rfl) (by kernel_rfl) ?_ ?_ ?_); (focus first | exact fun _ _ _ _ h => h | exact fun _ _ _ _ h => HPQ.out _ _ _ _ (by rfl) h); (focus exact ⟨⟨_, HLW.out⟩, rfl⟩); intro K hK; go_simp; (with_reducible refine hK _ ?_); clear hK K)
    ((refine takeQ (i := 6) (by rfl) (by kernel_rfl) (by kernel_rfl) (by kernel_rfl) ?_ ?_ ?_); (focus first | exact fun _ _ _ _ h => h | exact fun _ _ _ _ h => HPQ.out _ _ _ _ (by rfl) h); (focus exact ⟨⟨_, HLW.out⟩, rfl⟩); intro K hK; go_simp; (with_reducible refine hK _ ?_); clear hK K)
    ((refine takeQ (i := 7) (by rfl) (by kernel_rfl) (by kernel_rfl) (by kernel_rfl) ?_ ?_ ?_); (focus first | exact fun _ _ _ _ h => h | exact fun _ _ _ _ h => HPQ.out _ _ _ _ (by rfl) h); (focus exact ⟨⟨_, HLW.out⟩, rfl⟩); intro K hK; go_simp; (with_reducible refine hK _ ?_); clear hK K)
    ((refine takeQ (i := 8) (by rfl) (by kernel_rfl) (by kernel_rfl) (by kernel_rfl) ?_ ?_ ?_); (focus first | exact fun _ _ _ _ h => h | exact fun _ _ _ _ h => HPQ.out _ _ _ _ (by rfl) h); (focus exact ⟨⟨_, HLW.out⟩, rfl⟩); intro K hK; go_simp; (with_reducible refine hK _ ?_); clear hK K)
    ((refine takeQ (i := 9) (by rfl) (by kernel_rfl) (by kernel_rfl) (by kernel_rfl) ?_ ?_ ?_); (focus first | exact fun _ _ _ _ h => h | exact fun _ _ _ _ h => HPQ.out _ _ _ _ (by rfl) h); (focus exact ⟨⟨_, HLW.out⟩, rfl⟩); intro K hK; go_simp; (with_reducible refine hK _ ?_); clear hK K)
    ((refine takeQ (i := 10) (by rfl) (by kernel_rfl) (by kernel_rfl) (by kernel_rfl) ?_ ?_ ?_); (focus first | exact fun _ _ _ _ h => h | exact fun _ _ _ _ h => HPQ.out _ _ _ _ (by rfl) h); (focus exact ⟨⟨_, HLW.out⟩, rfl⟩); intro K hK; go_simp; (with_reducible refine hK _ ?_); clear hK K)
    ((refine takeQ (i := 11) (by rfl) (by kernel_rfl) (by kernel_rfl) (by kernel_rfl) ?_ ?_ ?_); (focus first | exact fun _ _ _ _ h => h | exact fun _ _ _ _ h => HPQ.out _ _ _ _ (by rfl) h); (focus exact ⟨⟨_, HLW.out⟩, rfl⟩); intro K hK; go_simp; (with_reducible refine hK _ ?_); clear hK K)
    ((refine takeQ (i := 12) (by rfl) (by kernel_rfl) (by kernel_rfl) (by kernel_rfl) ?_ ?_ ?_); (focus first | exact fun _ _ _ _ h => h | exact fun _ _ _ _ h => HPQ.out _ _ _ _ (by rfl) h); (focus exact ⟨⟨_, HLW.out⟩, rfl⟩); intro K hK; go_simp; (with_reducible refine hK _ ?_); clear hK K)
    ((refine takeQ (i := 13) (by rfl) (by kernel_rfl) (by kernel_rfl) (by kernel_rfl) ?_ ?_ ?_); (focus first | exact fun _ _ _ _ h => h | exact fun _ _ _ _ h => HPQ.out _ _ _ _ (by rfl) h); (focus exact ⟨⟨_, HLW.out⟩, rfl⟩); intro K hK; go_simp; (with_reducible refine hK _ ?_); clear hK K)
    refine hall2 (i := 14) (j := 15) (by kernel_rfl) (by rfl) (by rfl) (fun K hK => ?_) (fun K hK => ?_)
    · skip
      go_simp
      obtain ⟨u1, hv⟩ : ∃ x, wd.alloc (.cells #[.int .i64 0, .slice none 0 0, .slice none 0 0, .slice none 0 0] 37) = x := ⟨_, rfl⟩
      rw [hv]
      obtain ⟨b10, hg⟩ : ∃ x, wd.heap.size = x := ⟨_, rfl⟩
      rw [hg]
      have Kb10 : Aside0 (u1.heap[b10]? = some (.cells #[.int .i64 0, .slice none 0 0, .slice none 0 0, .slice none 0 0] 37 (0, 0))) := ⟨by rw [← hv, ← hg]; exact blk_new _ _⟩
      have ST : Aside0 (Below wd.heap.size wd u1) := ⟨hv ▸ below1 _ _⟩
      have Gb10 : Aside0 (w4.heap.size ≤ b10) := ⟨hg ▸ HLW.out.size⟩
      clear hv hg
      have HLW := Aside0.mk (join_below HLW.out ST.out)
      refine hK _ _ ⟨⟨_, HLW.out⟩, rfl⟩ ?_
      clear hK K ST
      refine hall1 (i := 15) (by kernel_rfl) (by rfl) (fun K hK => ?_)
      go_simp
      obtain ⟨u2, hv⟩ : ∃ x, u1.alloc (.cells #[.int .i64 0, .slice none 0 0, .slice none 0 0, .slice none 0 0] 37) = x := ⟨_, rfl⟩
      rw [hv]
      obtain ⟨b11, hg⟩ : ∃ x, u1.heap.size = x := ⟨_, rfl⟩
      rw [hg]
      have Kb11 : Aside0 (u2.heap[b11]? = some (.cells #[.int .i64 0, .slice none 0 0, .slice none 0 0, .slice none 0 0] 37 (0, 0))) := ⟨by rw [← hv, ← hg]; exact blk_new _ _⟩
      have ST : Aside0 (Below u1.heap.size u1 u2) := ⟨hv ▸ below1 _ _⟩
      have Gb11 : Aside0 (w4.heap.size ≤ b11) := ⟨hg ▸ HLW.out.size⟩
      have NE : Aside0 (b10 ≠ b11) := ⟨by have h := blk_lt Kb10.out; omega⟩
      have Kb10 := Aside0.mk (blk_below Kb10.out ST.out)
      clear hv hg
      have HLW := Aside0.mk (join_below HLW.out ST.out)
      refine hK _ _ ⟨⟨_, HLW.out⟩, rfl⟩ ?_
      clear hK K ST
      have y0 : World.cell? u2 ⟨b10, 0, none⟩ = some (.int .i64 0) := (blk_cell Kb10.out 0).trans rfl
      have z0 := blk_frozen Kb10.out 0
      have y1 : World.cell? u2 ⟨b10, 1, none⟩ = some (.slice none 0 0) := (blk_cell Kb10.out 1).trans rfl
      have z1 := blk_frozen Kb10.out 1
      have y2 : World.cell? u2 ⟨b10, 2, none⟩ = some (.slice none 0 0) := (blk_cell Kb10.out 2).trans rfl
      have z2 := blk_frozen Kb10.out 2
      have y3 : World.cell? u2 ⟨b10, 3, none⟩ = some (.slice none 0 0) := (blk_cell Kb10.out 3).trans rfl
      have z3 := blk_frozen Kb10.out 3
      refine hall1 (i := 16) (by kernel_rfl) (by rfl) (fun K hK => ?_)
      go_simp
      clear y0 z0 y1 z1 y2 z2 y3 z3
      obtain ⟨u3, hv⟩ : ∃ x, (World.setCell (World.setCell (World.setCell (World.setCell u2 ⟨b10, 0, none⟩ (.int .i64 sa.f1.f0)) ⟨b10, 1, none⟩ (.slice A2 sa.f1.f1.length c2)) ⟨b10, 2, none⟩ (.slice A3 sa.f1.f2.length c3)) ⟨b10, 3, none⟩ (.slice A4 sa.f1.f3.length c4)) = x := ⟨_, rfl⟩
      have Kb10 : Aside0 (u3.heap[b10]? = some (.cells #[.int .i64 sa.f1.f0, .slice A2 sa.f1.f1.length c2, .slice A3 sa.f1.f2.length c3, .slice A4 sa.f1.f3.length c4] 37 (0, 0))) := ⟨hv ▸ (blk_put (blk_put (blk_put (blk_put Kb10.out 0 (.int .i64 sa.f1.f0) rfl) 1 (.slice A2 sa.f1.f1.length c2) rfl) 2 (.slice A3 sa.f1.f2.length c3) rfl) 3 (.slice A4 sa.f1.f3.length c4) rfl)⟩
      have HLW : Aside0 (Below w4.heap.size w4 u3) := ⟨hv ▸ ((((HLW.out.setCell Gb10.out (.int .i64 sa.f1.f0)).setCell Gb10.out (.slice A2 sa.f1.f1.length c2)).setCell Gb10.out (.slice A3 sa.f1.f2.length c3)).setCell Gb10.out (.slice A4 sa.f1.f3.length c4))⟩
      have Kb11 : Aside0 (u3.heap[b11]? = some (.cells #[.int .i64 0, .slice none 0 0, .slice none 0 0, .slice none 0 0] 37 (0, 0))) := ⟨by have HNE : b11 ≠ b10 := (by have h := NE.out; omega); exact hv ▸ (blk_far (blk_far (blk_far (blk_far Kb11.out HNE (.int .i64 sa.f1.f0)) HNE (.slice A2 sa.f1.f1.length c2)) HNE (.slice A3 sa.f1.f2.length c3)) HNE (.slice A4 sa.f1.f3.length c4))⟩
      rw [hv]
      clear hv
      refine hK _ _ ⟨⟨_, HLW.out⟩, rfl⟩ ?_
      clear hK K
      have y0 : World.cell? u3 ⟨b11, 0, none⟩ = some (.int .i64 0) := (blk_cell Kb11.out 0).trans rfl
      have z0 := blk_frozen Kb11.out 0
      have y1 : World.cell? u3 ⟨b11, 1, none⟩ = some (.slice none 0 0) := (blk_cell Kb11.out 1).trans rfl
      have z1 := blk_frozen Kb11.out 1
      have y2 : World.cell? u3 ⟨b11, 2, none⟩ = some (.slice none 0 0) := (blk_cell Kb11.out 2).trans rfl
      have z2 := blk_frozen Kb11.out 2
      have y3 : World.cell? u3 ⟨b11, 3, none⟩ = some (.slice none 0 0) := (blk_cell Kb11.out 3).trans rfl
      have z3 := blk_frozen Kb11.out 3
      refine hall1 (i := 17) (by kernel_rfl) (by rfl) (fun K hK => ?_)
      go_simp
      clear y0 z0 y1 z1 y2 z2 y3 z3
      obtain ⟨u4, hv⟩ : ∃ x, (World.setCell (World.setCell (World.setCell (World.setCell u3 ⟨b11, 0, none⟩ (.int .i64 sb.f1.f0)) ⟨b11, 1, none⟩ (.slice B2 sb.f1.f1.length d2)) ⟨b11, 2, none⟩ (.slice B3 sb.f1.f2.length d3)) ⟨b11, 3, none⟩ (.slice B4 sb.f1.f3.length d4)) = x := ⟨_, rfl⟩
      have Kb11 : Aside0 (u4.heap[b11]? = some (.cells #[.int .i64 sb.f1.f0, .slice B2 sb.f1.f1.length d2, .slice B3 sb.f1.f2.length d3, .slice B4 sb.f1.f3.length d4] 37 (0, 0))) := ⟨hv ▸ (blk_put (blk_put (blk_put (blk_put Kb11.out 0 (.int .i64 sb.f1.f0) rfl) 1 (.slice B2 sb.f1.f1.length d2) rfl) 2 (.slice B3 sb.f1.f2.length d3) rfl) 3 (.slice B4 sb.f1.f3.length d4) rfl)⟩
      have HLW : Aside0 (Below w4.heap.size w4 u4) := ⟨hv ▸ ((((HLW.out.setCell Gb11.out (.int .i64 sb.f1.f0)).setCell Gb11.out (.slice B2 sb.f1.f1.length d2)).setCell Gb11.out (.slice B3 sb.f1.f2.length d3)).setCell Gb11.out (.slice B4 sb.f1.f3.length d4))⟩
      have Kb10 : Aside0 (u4.heap[b10]? = some (.cells #[.int .i64 sa.f1.f0, .slice A2 sa.f1.f1.length c2, .slice A3 sa.f1.f2.length c3, .slice A4 sa.f1.f3.length c4] 37 (0, 0))) := ⟨by have HNE : b10 ≠ b11 := (by have h := NE.out; omega); exact hv ▸ (blk_far (blk_far (blk_far (blk_far Kb10.out HNE (.int .i64 sb.f1.f0)) HNE (.slice B2 sb.f1.f1.length d2)) HNE (.slice B3 sb.f1.f2.length d3)) HNE (.slice B4 sb.f1.f3.length d4))⟩
      rw [hv]
      clear hv
      refine hK _ _ ⟨⟨_, HLW.out⟩, rfl⟩ ?_
      clear hK K
      refine wpAnyH_done (by kernel_rfl) ?_ _
      go_wp2
      go_meet
      case rel => exact ⟨b10, b11, rfl, rfl, ⟨⟨HLW.out, Kb10.out, Kb11.out⟩⟩⟩
    · skip
      go_simp
      obtain ⟨u1, hv⟩ : ∃ x, wd.alloc (.cells #[.int .i64 0, .slice none 0 0, .slice none 0 0, .slice none 0 0] 37) = x := ⟨_, rfl⟩
      rw [hv]
      obtain ⟨b11, hg⟩ : ∃ x, wd.heap.size = x := ⟨_, rfl⟩
      rw [hg]
      have Kb11 : Aside0 (u1.heap[b11]? = some (.cells #[.int .i64 0, .slice none 0 0, .slice none 0 0, .slice none 0 0] 37 (0, 0))) := ⟨by rw [← hv, ← hg]; exact blk_new _ _⟩
      have ST : Aside0 (Below wd.heap.size wd u1) := ⟨hv ▸ below1 _ _⟩
      have Gb11 : Aside0 (w4.heap.size ≤ b11) := ⟨hg ▸ HLW.out.size⟩
      clear hv hg
      have HLW := Aside0.mk (join_below HLW.out ST.out)
      refine hK _ _ ⟨⟨_, HLW.out⟩, rfl⟩ ?_
      clear hK K ST
      refine hall1 (i := 14) (by kernel_rfl) (by rfl) (fun K hK => ?_)
      go_simp
      obtain ⟨u2, hv⟩ : ∃ x, u1.alloc (.cells #[.int .i64 0, .slice none 0 0, .slice none 0 0, .slice none 0 0] 37) = x := ⟨_, rfl⟩
      rw [hv]
      obtain ⟨b10, hg⟩ : ∃ x, u1.heap.size = x := ⟨_, rfl⟩
      rw [hg]
      have Kb10 : Aside0 (u2.heap[b10]? = some (.cells #[.int .i64 0, .slice none 0 0, .slice none 0 0, .slice none 0 0] 37 (0, 0))) := ⟨by rw [← hv, ← hg]; exact blk_new _ _⟩
      have ST : Aside0 (Below u1.heap.size u1 u2) := ⟨hv ▸ below1 _ _⟩
      have Gb10 : Aside0 (w4.heap.size ≤ b10) := ⟨hg ▸ HLW.out.size⟩
      have NE : Aside0 (b11 ≠ b10) := ⟨by have h := blk_lt Kb11.out; omega⟩
      have Kb11 := Aside0.mk (blk_below Kb11.out ST.out)
      clear hv hg
      have HLW := Aside0.mk (join_below HLW.out ST.out)
      refine hK _ _ ⟨⟨_, HLW.out⟩, rfl⟩ ?_
      clear hK K ST
      have y0 : World.cell? u2 ⟨b10, 0, none⟩ = some (.int .i64 0) := (blk_cell Kb10.out 0).trans rfl
      have z0 := blk_frozen Kb10.out 0
      have y1 : World.cell? u2 ⟨b10, 1, none⟩ = some (.slice none 0 0) := (blk_cell Kb10.out 1).trans rfl
      have z1 := blk_frozen Kb10.out 1
      have y2 : World.cell? u2 ⟨b10, 2, none⟩ = some (.slice none 0 0) := (blk_cell Kb10.out 2).trans rfl
      have z2 := blk_frozen Kb10.out 2
      have y3 : World.cell? u2 ⟨b10, 3, none⟩ = some (.slice none 0 0) := (blk_cell Kb10.out 3).trans rfl
      have z3 := blk_frozen Kb10.out 3
      refine hall1 (i := 16) (by kernel_rfl) (by rfl) (fun K hK => ?_)
      go_simp
      clear y0 z0 y1 z1 y2 z2 y3 z3
      obtain ⟨u3, hv⟩ : ∃ x, (World.setCell (World.setCell (World.setCell (World.setCell u2 ⟨b10, 0, none⟩ (.int .i64 sa.f1.f0)) ⟨b10, 1, none⟩ (.slice A2 sa.f1.f1.length c2)) ⟨b10, 2, none⟩ (.slice A3 sa.f1.f2.length c3)) ⟨b10, 3, none⟩ (.slice A4 sa.f1.f3.length c4)) = x := ⟨_, rfl⟩
      have Kb10 : Aside0 (u3.heap[b10]? = some (.cells #[.int .i64 sa.f1.f0, .slice A2 sa.f1.f1.length c2, .slice A3 sa.f1.f2.length c3, .slice A4 sa.f1.f3.length c4] 37 (0, 0))) := ⟨hv ▸ (blk_put (blk_put (blk_put (blk_put Kb10.out 0 (.int .i64 sa.f1.f0) rfl) 1 (.slice A2 sa.f1.f1.length c2) rfl) 2 (.slice A3 sa.f1.f2.length c3) rfl) 3 (.slice A4 sa.f1.f3.length c4) rfl)⟩
      have HLW : Aside0 (Below w4.heap.size w4 u3) := ⟨hv ▸ ((((HLW.out.setCell Gb10.out (.int .i64 sa.f1.f0)).setCell Gb10.out (.slice A2 sa.f1.f1.length c2)).setCell Gb10.out (.slice A3 sa.f1.f2.length c3)).setCell Gb10.out (.slice A4 sa.f1.f3.length c4))⟩
      have Kb11 : Aside0 (u3.heap[b11]? = some (.cells #[.int .i64 0, .slice none 0 0, .slice none 0 0, .slice none 0 0] 37 (0, 0))) := ⟨by have HNE : b11 ≠ b10 := (by have h := NE.out; omega); exact hv ▸ (blk_far (blk_far (blk_far (blk_far Kb11.out HNE (.int .i64 sa.f1.f0)) HNE (.slice A2 sa.f1.f1.length c2)) HNE (.slice A3 sa.f1.f2.length c3)) HNE (.slice A4 sa.f1.f3.length c4))⟩
      rw [hv]
      clear hv
      refine hK _ _ ⟨⟨_, HLW.out⟩, rfl⟩ ?_
      clear hK K
      have y0 : World.cell? u3 ⟨b11, 0, none⟩ = some (.int .i64 0) := (blk_cell Kb11.out 0).trans rfl
      have z0 := blk_frozen Kb11.out 0
      have y1 : World.cell? u3 ⟨b11, 1, none⟩ = some (.slice none 0 0) := (blk_cell Kb11.out 1).trans rfl
      have z1 := blk_frozen Kb11.out 1
      have y2 : World.cell? u3 ⟨b11, 2, none⟩ = some (.slice none 0 0) := (blk_cell Kb11.out 2).trans rfl
      have z2 := blk_frozen Kb11.out 2
      have y3 : World.cell? u3 ⟨b11, 3, none⟩ = some (.slice none 0 0) := (blk_cell Kb11.out 3).trans rfl
      have z3 := blk_frozen Kb11.out 3
      refine hall1 (i := 17) (by kernel_rfl) (by rfl) (fun K hK => ?_)
      go_simp
      clear y0 z0 y1 z1 y2 z2 y3 z3
      obtain ⟨u4, hv⟩ : ∃ x, (World.setCell (World.setCell (World.setCell (World.setCell u3 ⟨b11, 0, none⟩ (.int .i64 sb.f1.f0)) ⟨b11, 1, none⟩ (.slice B2 sb.f1.f1.length d2)) ⟨b11, 2, none⟩ (.slice B3 sb.f1.f2.length d3)) ⟨b11, 3, none⟩ (.slice B4 sb.f1.f3.length d4)) = x := ⟨_, rfl⟩
      have Kb11 : Aside0 (u4.heap[b11]? = some (.cells #[.int .i64 sb.f1.f0, .slice B2 sb.f1.f1.length d2, .slice B3 sb.f1.f2.length d3, .slice B4 sb.f1.f3.length d4] 37 (0, 0))) := ⟨hv ▸ (blk_put (blk_put (blk_put (blk_put Kb11.out 0 (.int .i64 sb.f1.f0) rfl) 1 (.slice B2 sb.f1.f1.length d2) rfl) 2 (.slice B3 sb.f1.f2.length d3) rfl) 3 (.slice B4 sb.f1.f3.length d4) rfl)⟩
      have HLW : Aside0 (Below w4.heap.size w4 u4) := ⟨hv ▸ ((((HLW.out.setCell Gb11.out (.int .i64 sb.f1.f0)).setCell Gb11.out (.slice B2 sb.f1.f1.length d2)).setCell Gb11.out (.slice B3 sb.f1.f2.length d3)).setCell Gb11.out (.slice B4 sb.f1.f3.length d4))⟩
      have Kb10 : Aside0 (u4.heap[b10]? = some (.cells #[.int .i64 sa.f1.f0, .slice A2 sa.f1.f1.length c2, .slice A3 sa.f1.f2.length c3, .slice A4 sa.f1.f3.length c4] 37 (0, 0))) := ⟨by have HNE : b10 ≠ b11 := (by have h := NE.out; omega); exact hv ▸ (blk_far (blk_far (blk_far (blk_far Kb10.out HNE (.int .i64 sb.f1.f0)) HNE (.slice B2 sb.f1.f1.length d2)) HNE (.slice B3 sb.f1.f2.length d3)) HNE (.slice B4 sb.f1.f3.length d4))⟩
      rw [hv]
      clear hv
      refine hK _ _ ⟨⟨_, HLW.out⟩, rfl⟩ ?_
      clear hK K
      refine wpAnyH_done (by kernel_rfl) ?_ _
      go_wp2
      go_meet
      case rel => exact ⟨b10, b11, rfl, rfl, ⟨⟨HLW.out, Kb10.out, Kb11.out⟩⟩⟩
   obtain ⟨b10, b11, rfl, rfl, HC5⟩ := hcut
   obtain ⟨w5, rfl⟩ : ∃ x, x = wc := ⟨_, rfl⟩
   have HW5 : Aside0 (Below w3.heap.size w3 w5 ∧ Below w4.heap.size w4 w5 ∧ Below w2.heap.size w2 w5 ∧ Below w1.heap.size w1 w5) := ⟨join_below HC4.out.1 HC5.out.1, HC5.out.1, join_below HB3.out (join_below HC4.out.1 HC5.out.1), join_below HB24.out HC5.out.1⟩
   have HFIN : Aside0 (∀ w, Below w5.heap.size w5 w → OwnAt w ∧ Below W.heap.size W w ∧ Below w1.heap.size w1 w) := ⟨fun w h => ⟨(HG.out w (join_below HW5.out.2.2.1 h)).2.2.1, (HG.out w (join_below HW5.out.2.2.1 h)).2.2.2, join_below HW5.out.2.2.2 h⟩⟩
   have HP10 : Aside0 (w5.heap[b10]? = some (.cells #[.int .i64 sa.f1.f0, .slice A2 sa.f1.f1.length c2, .slice A3 sa.f1.f2.length c3, .slice A4 sa.f1.f3.length c4] 37 (0, 0))) := ⟨HC5.out.2.1⟩
   have HP11 : Aside0 (w5.heap[b11]? = some (.cells #[.int .i64 sb.f1.f0, .slice B2 sb.f1.f1.length d2, .slice B3 sb.f1.f2.length d3, .slice B4 sb.f1.f3.length d4] 37 (0, 0))) := ⟨HC5.out.2.2⟩
   clear HC4 HC5 HCA HX HG HB24 HB23 HW5 hwd HDR HLW HMS HCHK HN k3 hla2 nb0
   have y0 : w5.cell? ⟨b10, 0, none⟩ = some (.int .i64 sa.f1.f0) := (blk_cell HP10.out 0).trans rfl
   have y1 : w5.cell? ⟨b10, 1, none⟩ = some (.slice A2 sa.f1.f1.length c2) := (blk_cell HP10.out 1).trans rfl
   have y2 : w5.cell? ⟨b10, 2, none⟩ = some (.slice A3 sa.f1.f2.length c3) := (blk_cell HP10.out 2).trans rfl
   have y3 : w5.cell? ⟨b10, 3, none⟩ = some (.slice A4 sa.f1.f3.length c4) := (blk_cell HP10.out 3).trans rfl
   go_wp2_with fail
   have hf := HFIN.out w5 (Below.refl _ _)
   refine (cntP_any sa.f1 HOA.out.s w1 w5 _ hf.2.2 HPA.out).mono ?_
   rintro e w6 ⟨rfl, hb⟩
   have HB6 := Aside0.mk hb
   clear hb hf y0 y1 y2 y3
   have y0 : w6.cell? ⟨b10, 0, none⟩ = some (.int .i64 sa.f1.f0) := cell_after HB6.out ((blk_cell HP10.out 0).trans rfl)
   have y1 : w6.cell? ⟨b10, 1, none⟩ = some (.slice A2 sa.f1.f1.length c2) := cell_after HB6.out ((blk_cell HP10.out 1).trans rfl)
   have y2 : w6.cell? ⟨b10, 2, none⟩ = some (.slice A3 sa.f1.f2.length c3) := cell_after HB6.out ((blk_cell HP10.out 2).trans rfl)
   have y3 : w6.cell? ⟨b10, 3, none⟩ = some (.slice A4 sa.f1.f3.length c4) := cell_after HB6.out ((blk_cell HP10.out 3).trans rfl)
   go_wp2_with fail
   have hf := HFIN.out w6 HB6.out
   refine (rcntP_any sa.f1 HOA.out.s w1 w6 _ hf.2.2 HPA.out).mono ?_
   rintro e w7 ⟨rfl, hb⟩
   have HB7 := Aside0.mk (join_below HB6.out hb)
   clear hb hf y0 y1 y2 y3 HB6
   go_upto_region 8 with (fail)
   obtain ⟨wd, hwd⟩ : ∃ x, w7.drew = x := ⟨_, rfl⟩
   have HDR : Aside0 (Below w7.heap.size w7 wd) := ⟨hwd ▸ below_drew1 (Below.refl _ _)⟩
   have HLW := HDR
   refine wp_region_held (S := fun w' => ∃ p : Later w7, w' = p.wx) (by kernel_rfl) ?_
   change wpAnyH _ _ _ _ _ _ _ _ (World.drew _)
   rw [hwd]
   clear hwd
   have x0 : ∀ p : Later w7, p.wx.cell? ⟨b10, 0, none⟩ = some (.int .i64 sa.f1.f0) := fun p => cell_after (join_below HB7.out p.below) ((blk_cell HP10.out 0).trans rfl)
   have y0 : ∀ p : Later w7, p.wx.cell? ⟨b11, 0, none⟩ = some (.int .i64 sb.f1.f0) := fun p => cell_after (join_below HB7.out p.below) ((blk_cell HP11.out 0).trans rfl)
   have x1 : ∀ p : Later w7, p.wx.cell? ⟨b10, 1, none⟩ = some (.slice A2 sa.f1.f1.length c2) := fun p => cell_after (join_below HB7.out p.below) ((blk_cell HP10.out 1).trans rfl)
   have y1 : ∀ p : Later w7, p.wx.cell? ⟨b11, 1, none⟩ = some (.slice B2 sb.f1.f1.length d2) := fun p => cell_after (join_below HB7.out p.below) ((blk_cell HP11.out 1).trans rfl)
   have x2 : ∀ p : Later w7, p.wx.cell? ⟨b10, 2, none⟩ = some (.slice A3 sa.f1.f2.length c3) := fun p => cell_after (join_below HB7.out p.below) ((blk_cell HP10.out 2).trans rfl)
   have y2 : ∀ p : Later w7, p.wx.cell? ⟨b11, 2, none⟩ = some (.slice B3 sb.f1.f2.length d3) := fun p => cell_after (join_below HB7.out p.below) ((blk_cell HP11.out 2).trans rfl)
   have x3 : ∀ p : Later w7, p.wx.cell? ⟨b10, 3, none⟩ = some (.slice A4 sa.f1.f3.length c4) := fun p => cell_after (join_below HB7.out p.below) ((blk_cell HP10.out 3).trans rfl)
   have y3 : ∀ p : Later w7, p.wx.cell? ⟨b11, 3, none⟩ = some (.slice B4 sb.f1.f3.length d4) := fun p => cell_after (join_below HB7.out p.below) ((blk_cell HP11.out 3).trans rfl)
   refine hall1 (i := 0) (by kernel_rfl) (by rfl) (fun K hK => ?_)
   go_simp
   have hf := HFIN.out _ (join_below HB7.out HLW.out)
   refine (told_any chk_none chk_made chk_twice _ hf.1).mono ?_
   rintro e u1 ⟨rfl, hb⟩
   have HLW := Aside0.mk (join_below HLW.out hb)
   clear hb hf
   refine hK _ _ ⟨⟨_, HLW.out⟩, rfl⟩ ?_
   clear hK K
   ((refine takeQ (i := 1) (by rfl) (by kernel_rfl) (by kernel_rfl) (by kernel_rfl) ?_ ?_ ?_); (focus first | exact fun _ _ _ _ h => h | exact fun _ _ _ _ h => HPQ.out _ _ _ _ (by rfl) h); (focus exact ⟨⟨_, HLW.out⟩, rfl⟩); intro K hK; go_simp; (with_reducible refine hK _ ?_); clear hK K)
   ((refine takeQ (i := 2) (by rfl) (by kernel_rfl) (by kernel_rfl) (by kernel_rfl) ?_ ?_ ?_); (focus first | exact fun _ _ _ _ h => h | exact fun _ _ _ _ h => HPQ.out _ _ _ _ (by rfl) h); (focus exact ⟨⟨_, HLW.out⟩, rfl⟩); intro K hK; go_simp; (with_reducible refine hK _ ?_); clear hK K)
   ((refine takeQ (i := 3) (by rfl) (by kernel_rfl) (by kernel_rfl) (by kernel_rfl) ?_ ?_ ?_); (focus first | exact fun _ _ _ _ h => h | exact fun _ _ _ _ h => HPQ.out _ _ _ _ (by rfl) h); (focus exact ⟨⟨_, HLW.out⟩, rfl⟩); intro K hK; go_simp; (with_reducible refine hK _ ?_); clear hK K)
   ((refine takeQ (i := 4) (by rfl) (by kernel_rfl) (by kernel_rfl) (by kernel_rfl) ?_ ?_ ?_); (focus first | exact fun _ _ _ _ h => h | exact fun _ _ _ _ h => HPQ.out _ _ _ _ (by rfl) h); (focus exact ⟨⟨_, HLW.out⟩, rfl⟩); intro K hK; go_simp; (with_reducible refine hK _ ?_); clear hK K)
   ((refine takeQ (i := 5) (by rfl) (by kernel_rfl) (by kernel_rfl) (by kernel_rfl) ?_ ?_ ?_); (focus first | exact fun _ _ _ _ h => h | exact fun _ _ _ _ h => HPQ.out _ _ _ _ (by rfl) h); (focus exact ⟨⟨_, HLW.out⟩, rfl⟩); intro K hK; go_simp; (with_reducible refine hK _ ?_); clear hK K)
   ((refine takeQ (i := 6) (by rfl) (by kernel_rfl) (by kernel_rfl) (by kernel_rfl) ?_ ?_ ?_); (focus first | exact fun _ _ _ _ h => h | exact fun _ _ _ _ h => HPQ.out _ _ _ _ (by rfl) h); (focus exact ⟨⟨_, HLW.out⟩, rfl⟩); intro K hK; go_simp; (with_reducible refine hK _ ?_); clear hK K)
   ((refine takeQ (i := 7) (by rfl) (by kernel_rfl) (by kernel_rfl) (by kernel_rfl) ?_ ?_ ?_); (focus first | exact fun _ _ _ _ h => h | exact fun _ _ _ _ h => HPQ.out _ _ _ _ (by rfl) h); (focus exact ⟨⟨_, HLW.out⟩, rfl⟩); intro K hK; go_simp; (with_reducible refine hK _ ?_); clear hK K)
   ((refine takeQ (i := 8) (by rfl) (by kernel_rfl) (by kernel_rfl) (by kernel_rfl) ?_ ?_ ?_); (focus first | exact fun _ _ _ _ h => h | exact fun _ _ _ _ h => HPQ.out _ _ _ _ (by rfl) h); (focus exact ⟨⟨_, HLW.out⟩, rfl⟩); intro K hK; go_simp; (with_reducible refine hK _ ?_); clear hK K)
   ((refine takeQ (i := 9) (by rfl) (by kernel_rfl) (by kernel_rfl) (by kernel_rfl) ?_ ?_ ?_); (focus first | exact fun _ _ _ _ h => h | exact fun _ _ _ _ h => HPQ.out _ _ _ _ (by rfl) h); (focus exact ⟨⟨_, HLW.out⟩, rfl⟩); intro K hK; go_simp; (with_reducible refine hK _ ?_); clear hK K)
   ((refine takeQ (i := 10) (by rfl) (by kernel_rfl) (by kernel_rfl) (by kernel_rfl) ?_ ?_ ?_); (focus first | exact fun _ _ _ _ h => h | exact fun _ _ _ _ h => HPQ.out _ _ _ _ (by rfl) h); (focus exact ⟨⟨_, HLW.out⟩, rfl⟩); intro K hK; go_simp; (with_reducible refine hK _ ?_); clear hK K)
   ((refine takeQ (i := 11) (by rfl) (by kernel_rfl) (by kernel_rfl) (by kernel_rfl) ?_ ?_ ?_); (focus first | exact fun _ _ _ _ h => h | exact fun _ _ _ _ h => HPQ.out _ _ _ _ (by rfl) h); (focus exact ⟨⟨_, HLW.out⟩, rfl⟩); intro K hK; go_simp; (with_reducible refine hK _ ?_); clear hK K)
   ((refine takeQ (i := 12) (by rfl) (by kernel_rfl) (by kernel_rfl) (by kernel_rfl) ?_ ?_ ?_); (focus first | exact fun _ _ _ _ h => h | exact fun _ _ _ _ h => HPQ.out _ _ _ _ (by rfl) h); (focus exact ⟨⟨_, HLW.out⟩, rfl⟩); intro K hK; go_simp; (with_reducible refine hK _ ?_); clear hK K)
   ((refine takeQ (i := 14) (by rfl) (by kernel_rfl) (by kernel_rfl) (by kernel_rfl) ?_ ?_ ?_); (focus first | exact fun _ _ _ _ h => h | exact fun _ _ _ _ h => HPQ.out _ _ _ _ (by rfl) h); (focus exact ⟨⟨_, HLW.out⟩, rfl⟩); intro K hK; go_simp; (with_reducible refine hK _ ?_); clear hK K)
   refine hall1 (i := 13) (by kernel_rfl) (by rfl) (fun K hK => ?_)
   go_simp
   have hf := HFIN.out _ (join_below HB7.out HLW.out)
   refine (emp_any sa.f1 w1 _ _ hf.2.2 HPA.out).mono ?_
   rintro e u2 ⟨rfl, hb⟩
   have HLW := Aside0.mk (join_below HLW.out hb)
   clear hb hf
   refine hK _ _ ⟨⟨_, HLW.out⟩, rfl⟩ ?_
   clear hK K
   refine hall1 (i := 15) (by kernel_rfl) (by rfl) (fun K hK => ?_)
   go_simp
   have hf := HFIN.out _ (join_below HB7.out HLW.out)
   refine (remp_any (T := T) sa.f1 HOA.out.n w1 _ _ hf.2.2 HPA.out).mono ?_
   rintro e u3 ⟨rfl, hb⟩
   have HLW := Aside0.mk (join_below HLW.out hb)
   clear hb hf
   refine hK _ _ ⟨⟨_, HLW.out⟩, rfl⟩ ?_
   clear hK K
   ((refine takeQ (i := 16) (by rfl) (by kernel_rfl) (by kernel_rfl) (by kernel_rfl) ?_ ?_ ?_); (focus first | exact fun _ _ _ _ h => h | exact fun _ _ _ _ h => HPQ.out _ _ _ _ (by rfl) h); (focus exact ⟨⟨_, HLW.out⟩, rfl⟩); intro K hK; go_simp; (with_reducible refine hK _ ?_); clear hK K)
   ((refine takeQ (i := 17) (by rfl) (by kernel_rfl) (by kernel_rfl) (by kernel_rfl) ?_ ?_ ?_); (focus first | exact fun _ _ _ _ h => h | exact fun _ _ _ _ h => HPQ.out _ _ _ _ (by rfl) h); (focus exact ⟨⟨_, HLW.out⟩, rfl⟩); intro K hK; go_simp; (with_reducible refine hK _ ?_); clear hK K)
   ((refine takeQ (i := 18) (by rfl) (by kernel_rfl) (by kernel_rfl) (by kernel_rfl) ?_ ?_ ?_); (focus first | exact fun _ _ _ _ h => h | exact fun _ _ _ _ h => HPQ.out _ _ _ _ (by rfl) h); (focus exact ⟨⟨_, HLW.out⟩, rfl⟩); intro K hK; go_simp; (with_reducible refine hK _ ?_); clear hK K)
   ((refine takeQ (i := 19) (by rfl) (by kernel_rfl) (by kernel_rfl) (by kernel_rfl) ?_ ?_ ?_); (focus first | exact fun _ _ _ _ h => h | exact fun _ _ _ _ h => HPQ.out _ _ _ _ (by rfl) h); (focus exact ⟨⟨_, HLW.out⟩, rfl⟩); intro K hK; go_simp; (with_reducible refine hK _ ?_); clear hK K)
   ((refine takeQ (i := 20) (by rfl) (by kernel_rfl) (by kernel_rfl) (by kernel_rfl) ?_ ?_ ?_); (focus first | exact fun _ _ _ _ h => h | exact fun _ _ _ _ h => HPQ.out _ _ _ _ (by rfl) h); (focus exact ⟨⟨_, HLW.out⟩, rfl⟩); intro K hK; go_simp; (with_reducible refine hK _ ?_); clear hK K)
   ((refine takeQ (i := 22) (by rfl) (by kernel_rfl) (by kernel_rfl) (by kernel_rfl) ?_ ?_ ?_); (focus first | exact fun _ _ _ _ h => h | exact fun _ _ _ _ h => HPQ.out _ _ _ _ (by rfl) h); (focus exact ⟨⟨_, HLW.out⟩, rfl⟩); intro K hK; go_simp; (with_reducible refine hK _ ?_); clear hK K)
   ((refine takeQ (i := 23) (by rfl) (by kernel_rfl) (by kernel_rfl) (by kernel_rfl) ?_ ?_ ?_); (focus first | exact fun _ _ _ _ h => h | exact fun _ _ _ _ h => HPQ.out _ _ _ _ (by rfl) h); (focus exact ⟨⟨_, HLW.out⟩, rfl⟩); intro K hK; go_simp; (with_reducible refine hK _ ?_); clear hK K)
   refine hall1 (i := 21) (by kernel_rfl) (by rfl) (fun K hK => ?_)
   go_simp
   have hf := HFIN.out _ (join_below HB7.out HLW.out)
   refine (same_pt sa.f1 sb.f1 w1 _ _ _ hf.2.2 HPA.out HPB.out).mono ?_
   rintro e u4 ⟨rfl, hb⟩
   have HLW := Aside0.mk (join_below HLW.out hb)
   clear hb hf
   refine hK _ _ ⟨⟨_, HLW.out⟩, rfl⟩ ?_
   clear hK K
   refine hall1 (i := 24) (by kernel_rfl) (by rfl) (fun K hK => ?_)
   go_simp
   have hf := HFIN.out _ (join_below HB7.out HLW.out)
   refine (rsame_any sa.f1 sb.f1 w1 _ _ _ hf.2.2 HPA.out HPB.out).mono ?_
   rintro e u5 ⟨rfl, hb⟩
   have HLW := Aside0.mk (join_below HLW.out hb)
   clear hb hf
   refine hK _ _ ⟨⟨_, HLW.out⟩, rfl⟩ ?_
   clear hK K
   ((refine takeQ (i := 25) (by rfl) (by kernel_rfl) (by kernel_rfl) (by kernel_rfl) ?_ ?_ ?_); (focus first | exact fun _ _ _ _ h => h | exact fun _ _ _ _ h => HPQ.out _ _ _ _ (by rfl) h); (focus exact ⟨⟨_, HLW.out⟩, rfl⟩); intro K hK; go_simp; (with_reducible refine hK _ ?_); clear hK K)
   ((refine takeQ (i := 26) (by rfl) (by kernel_rfl) (by kernel_rfl) (by kernel_rfl) ?_ ?_ ?_); (focus first | exact fun _ _ _ _ h => h | exact fun _ _ _ _ h => HPQ.out _ _ _ _ (by rfl) h); (focus exact ⟨⟨_, HLW.out⟩, rfl⟩); intro K hK; go_simp; (with_reducible refine hK _ ?_); clear hK K)
   ((refine takeQ (i := 27) (by rfl) (by kernel_rfl) (by kernel_rfl) (by kernel_rfl) ?_ ?_ ?_); (focus first | exact fun _ _ _ _ h => h | exact fun _ _ _ _ h => HPQ.out _ _ _ _ (by rfl) h); (focus exact ⟨⟨_, HLW.out⟩, rfl⟩); intro K hK; go_simp; (with_reducible refine hK _ ?_); clear hK K)
   ((refine takeQ (i := 28) (by rfl) (by kernel_rfl) (by kernel_rfl) (by kernel_rfl) ?_ ?_ ?_); (focus first | exact fun _ _ _ _ h => h | exact fun _ _ _ _ h => HPQ.out _ _ _ _ (by rfl) h); (focus exact ⟨⟨_, HLW.out⟩, rfl⟩); intro K hK; go_simp; (with_reducible refine hK _ ?_); clear hK K)
   ((refine takeQ (i := 29) (by rfl) (by kernel_rfl) (by kernel_rfl) (by kernel_rfl) ?_ ?_ ?_); (focus first | exact fun _ _ _ _ h => h | exact fun _ _ _ _ h => HPQ.out _ _ _ _ (by rfl) h); (focus exact ⟨⟨_, HLW.out⟩, rfl⟩); intro K hK; go_simp; (with_reducible refine hK _ ?_); clear hK K)
   refine hall1 (i := 30) (by kernel_rfl) (by rfl) (fun K hK => ?_)
   go_simp
   have hf := HFIN.out _ (join_below HB7.out HLW.out)
   refine (same_pt sa.f1 sa.f1 w1 _ _ _ hf.2.2 HPA.out HPA.out).mono ?_
   rintro e u6 ⟨rfl, hb⟩
   have HLW := Aside0.mk (join_below HLW.out hb)
   clear hb hf
   refine hK _ _ ⟨⟨_, HLW.out⟩, rfl⟩ ?_
   clear hK K
   ((refine takeQ (i := 31) (by rfl) (by kernel_rfl) (by kernel_rfl) (by kernel_rfl) ?_ ?_ ?_); (focus first | exact fun _ _ _ _ h => h | exact fun _ _ _ _ h => HPQ.out _ _ _ _ (by rfl) h); (focus exact ⟨⟨_, HLW.out⟩, rfl⟩); intro K hK; go_simp; (with_reducible refine hK _ ?_); clear hK K)
   ((refine takeQ (i := 32) (by rfl) (by kernel_rfl) (by kernel_rfl) (by kernel_rfl) ?_ ?_ ?_); (focus first | exact fun _ _ _ _ h => h | exact fun _ _ _ _ h => HPQ.out _ _ _ _ (by rfl) h); (focus exact ⟨⟨_, HLW.out⟩, rfl⟩); intro K hK; go_simp; (with_reducible refine hK _ ?_); clear hK K)
   refine wpAnyH_done (by kernel_rfl) ?_ _
   clear x0 x1 x2 x3 y0 y1 y2 y3
   rw [same_self]
   go_wp2
   go_ret
   exact ⟨by simp, (HFIN.out _ (join_below HB7.out HLW.out)).2.1⟩
end Go.Proofs.YthdfmbmbjpmlaaaDoor.Rn
end
section
set_option linter.unusedVariables false
namespace Go.Proofs.YthdfmbmbjpmlaaaDoor.Rn
open Go Go.RowKit Go.Shelf Go.Lib Go.Proofs.YthdfmbmbjpmlaaaDoorW.PrintWords Go.ChangeShapes Go.WideShapes Go.ChangeAt
theorem own : ownKnob Tryd.prog.godebug = none := by kernel_rfl
theorem laidOut : laidOutB Tryd.prog = true := by kernel_rfl
theorem own_of {W : World} (h : VarReads Tryd.prog W "gobo/gram.own" Rows.laid_gobo_gram_own) : OwnAt W := by
 obtain ⟨g, t, cs, fuel, p, hg, hty, hvar, hd⟩ := h
 obtain rfl := Option.some.inj ((show Tryd.prog.globalNamed "gobo/gram.own" = some 0 by kernel_rfl).symm.trans hg)
 obtain rfl := Option.some.inj ((show (Tryd.prog.globals[0]?).map (·.type) = some 76 by kernel_rfl).symm.trans hty)
 have hc : Tryd.prog.cellsOf 9 = 1 := by kernel_rfl
 refine ⟨rfl, by decide, fun _ => ⟨_, rfl, fun j s hj => ?_⟩⟩
 have hj6 : j < 6 := (List.getElem?_eq_some_iff.1 hj).1
 obtain ⟨fuel', d, q, hdi, he⟩ := array_elem Tryd.underlying76 hd j hj6
 rw [hc] at he
 obtain ⟨u, hu, hx, _⟩ := DataW.trod_string Tryd.underlying9 he
 have hd1 : d = .lit (.string u.data.toList) := congrArg Prod.fst hx
 have hus : u = s := by
  rw [hd1] at hdi
  have key : u.data.toList = s.data.toList := by
   match j, hj, hdi with
   | 0, hj, hdi => obtain rfl := Option.some.inj hj; simpa [ownL] using hdi.symm
   | 1, hj, hdi => obtain rfl := Option.some.inj hj; simpa [ownL] using hdi.symm
   | 2, hj, hdi => obtain rfl := Option.some.inj hj; simpa [ownL] using hdi.symm
   | 3, hj, hdi => obtain rfl := Option.some.inj hj; simpa [ownL] using hdi.symm
   | 4, hj, hdi => obtain rfl := Option.some.inj hj; simpa [ownL] using hdi.symm
   | 5, hj, hdi => obtain rfl := Option.some.inj hj; simpa [ownL] using hdi.symm
   | n + 6, hj, _ => simp [ownL] at hj
  exact text_ext (by rw [text_data, text_data]; exact key)
 refine ⟨[.string s], rfl, rfl, fun i v hv => ?_⟩
 have hi : i = 0 := by
  cases i with
  | zero => rfl
  | succ n => simp at hv
 subst hi
 have hv' : v = .string s := by simpa using hv.symm
 subst hv'
 have e0 := congrArg (·[0]?) hu
 simp only [List.getElem?_take, List.getElem?_drop] at e0
 show W.cell? ((⟨0, 0, none⟩ : Addr).add (j * 1 + 0)) = _
 rw [add_at, Nat.zero_add, Nat.add_zero, World.var?_cell hg hvar (j * 1), ← Array.getElem?_toList]
 simpa [hus] using e0
theorem tabs_of {W : World} (hL : laidMet Tryd.prog [("gobo/gram.own", Rows.laid_gobo_gram_own)] W) : OwnAt W := own_of (Lib.laidMet.reads hL (.head _))
end Go.Proofs.YthdfmbmbjpmlaaaDoor.Rn
end
