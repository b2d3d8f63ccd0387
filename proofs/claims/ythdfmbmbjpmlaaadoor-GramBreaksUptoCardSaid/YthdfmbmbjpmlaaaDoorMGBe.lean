/- texts of this claim, one behind the other. -/
import Derived.Test.YthdfmbmbjpmlaaaDoorMGBd
import Derived.Test.YthdfmbmbjpmlaaaDoorMGBb
import Derived.Test.YthdfmbmbjpmlaaaDoorRows
import Derived.Lib.LaidU8T
import Derived.LaidOnce
import Derived.Lay
import Derived.OpenShut
import Derived.SizedLaws
import Derived.ProofKit
import Derived.SevenTiedAt
import Derived.Test.YthdfmbmbjpmlaaaDoorMGBa
import Derived.Deep.Slices
import Derived.Carry
import Derived.Test.YthdfmbmbjpmlaaaDoorProg
section
set_option linter.unusedVariables false
set_option linter.unusedSimpArgs false
namespace Go.Proofs.YthdfmbmbjpmlaaaDoor.Rn
open Go Go.RowKit Go.Proofs.YthdfmbmbjpmlaaaDoorW.PrintWords Go.Proofs.YthdfmbmbjpmlaaaDoorW.PrintLast Go.Proofs.YthdfmbmbjpmlaaaDoorW.PrintMore
set_option maxHeartbeats 200000000 in
set_option maxRecDepth 100000 in
theorem pat_c7 {Q : Exit → Act → World → Prop} {u0 u4 u5 u6 u7 u8 u10 u14 u15 u16 u17 u18 u19 u20 u21 u22 u23 u24 u25 u26 u27 u28 u29 u30 u31 u32 u33 u34 u35 u37 u38 u39 u40 u41 u42 u43 u44 u45 u46 u47 u48 u49 u50 u51 u52 u53 u54 u55 u56 u57 u58 u59 u60 u61 u62 u63 u64 u65 u66 u67 u68 u69 u70 u71 u72 u73 u74 u75 u76 u77 u78 u79 u80 u81 u82 u83 u84 u85 u86 u87 u88 u89 u90 u91 u92 u93 u94 u95 u96 u97 u98 u99 u100 u101 u102 u103 u104 u105 u106 u107 u108 u109 u110 u111 u112 u113 u114 u115 u116 u117 u118 u119 u120 u121 u122 u123 u124 u125 u126 u127 u128 u129 u130 u131 u132 u133 u134 u135 u136 u137 u138 u139 u140 u141 u142 u143 u144 u145 u146 u147 u148 u149 u150 u151 u152 u153 u154 u155 u156 u157 u158 u159 u160 u161 u162 u163 u164 u165 u166 u167 u168 u169 u170 u171 u172 u173 u174 u175 u176 u177 u178 u179 u180 u181 u182 u183 u184 u185 u186 u187 u188 u189 u190 u191 u192 u193 u194 u195 u196 u197 u198 u199 u200 u201 u202 u203 u204 u205 u206 u207 u208 u209 u210 u211 u212 u213 u214 : Value} {W w1 w2 : World} {okA : Nat → Prop} {xs : List Pt} {k : Int} {ins calls rets : List ByteArray} {A1 A2 A3 : Option Addr} {c1 c2 c3 : Nat} {d : Nat} {B : Option Addr} {v : Nat} (hA : ∀ q, okA q → q < W.heap.size) (hB0 : Below W.heap.size W w1) (hT1 : TxtIn W okA A1 ins c1) (hT2 : TxtIn W okA A2 calls c2) (hT3 : TxtIn W okA A3 rets c3) (hS2 : PatAt w1 w2 okA (.slice B xs.length d) xs) (hV : IntKind.u64.wrap k % 11 = (v : Int)) (hv3 : 3 ≤ v) (hv11 : v < 11) (hx5 : 5 < v → 0 < xs.length) (hM8 : xs.length + 1 ≤ 8)
 (hP : ∀ (c : List PanicEntry) (a a' : Act) (w : World), a'.defers = a.defers → Q (.panic c) a' w → Q (.panic c) a w) (hQ : ∀ (v55 v56 v57 v58 v59 v60 v61 v62 v63 v64 v65 v66 v67 v68 v69 v70 v71 v72 v73 v74 v75 v76 v77 v78 v79 v80 v81 v82 v83 v84 v85 v86 v87 v88 v89 v90 v91 v92 v93 v94 v95 v96 v97 v98 v99 v100 v101 v102 v103 v104 v105 v106 v107 v108 v109 v110 v111 v112 v113 v114 v115 v116 v117 v118 v119 v120 v121 v122 v123 v124 v125 v126 v127 v128 v129 v130 v131 v132 v133 v134 v135 v136 v137 v138 v139 v140 v141 v142 v143 v144 v145 v146 v147 v148 v149 v150 v151 v152 v153 v154 v155 v156 v157 v158 v159 v160 v161 v162 v163 v164 v165 v166 v167 v168 v169 v170 v171 v172 v173 v174 v175 v176 v177 v178 v179 v180 v181 v182 v183 v184 v185 v186 v187 v188 v189 v190 v191 v192 v193 : Value) (A9 : Option Addr) (n9 c9 : Nat) (xs9 : List Pt) (w9 : World), n9 = xs9.length → patNext ins calls rets xs k = xs9 → xs9.length ≤ xs.length + 1 → PatAt w1 w9 okA (.slice A9 n9 c9) xs9 → Q .normal ⟨#[u0, .slice A1 ins.length c1, .slice A2 calls.length c2, .slice A3 rets.length c3, u4, u5, u6, u7, u8, .slice A9 n9 c9, u10, .int .i64 (xs.length : Int), .int .i64 k, .int .i64 (v : Int), u14, u15, u16, u17, u18, u19, u20, u21, u22, u23, u24, u25, u26, u27, u28, u29, u30, u31, u32, u33, u34, u35, .bool false, u37, u38, u39, u40, u41, u42, u43, u44, u45, u46, u47, u48, u49, u50, u51, u52, u53, u54, v55, v56, v57, v58, v59, v60, v61, v62, v63, v64, v65, v66, v67, v68, v69, v70, v71, v72, v73, v74, v75, v76, v77, v78, v79, v80, v81, v82, v83, v84, v85, v86, v87, v88, v89, v90, v91, v92, v93, v94, v95, v96, v97, v98, v99, v100, v101, v102, v103, v104, v105, v106, v107, v108, v109, v110, v111, v112, v113, v114, v115, v116, v117, v118, v119, v120, v121, v122, v123, v124, v125, v126, v127, v128, v129, v130, v131, v132, v133, v134, v135, v136, v137, v138, v139, v140, v141, v142, v143, v144, v145, v146, v147, v148, v149, v150, v151, v152, v153, v154, v155, v156, v157, v158, v159, v160, v161, v162, v163, v164, v165, v166, v167, v168, v169, v170, v171, v172, v173, v174, v175, v176, v177, v178, v179, v180, v181, v182, v183, v184, v185, v186, v187, v188, v189, v190, v191, v192, v193, u194, u195, u196, u197, u198, u199, u200, u201, u202, u203, u204, u205, u206, u207, u208, u209, u210, u211, u212, u213, u214], []⟩ w9) :
 Code.wp Tryd.prog (behindOf Tryd.f17 7) Q ⟨#[u0, .slice A1 ins.length c1, .slice A2 calls.length c2, .slice A3 rets.length c3, u4, u5, u6, u7, u8, .slice B xs.length d, u10, .int .i64 (xs.length : Int), .int .i64 k, .int .i64 (v : Int), u14, u15, u16, u17, u18, u19, u20, u21, u22, u23, u24, u25, u26, u27, u28, u29, u30, u31, u32, u33, u34, u35, .bool false, u37, u38, u39, u40, u41, u42, u43, u44, u45, u46, u47, u48, u49, u50, u51, u52, u53, u54, u55, u56, u57, u58, u59, u60, u61, u62, u63, u64, u65, u66, u67, u68, u69, u70, u71, u72, u73, u74, u75, u76, u77, u78, u79, u80, u81, u82, u83, u84, u85, u86, u87, u88, u89, u90, u91, u92, u93, u94, u95, u96, u97, u98, u99, u100, u101, u102, u103, u104, u105, u106, u107, u108, u109, u110, u111, u112, u113, u114, u115, u116, u117, u118, u119, u120, u121, u122, u123, u124, u125, u126, u127, u128, u129, u130, u131, u132, u133, u134, u135, u136, u137, u138, u139, u140, u141, u142, u143, u144, u145, u146, u147, u148, u149, u150, u151, u152, u153, u154, u155, u156, u157, u158, u159, u160, u161, u162, u163, u164, u165, u166, u167, u168, u169, u170, u171, u172, u173, u174, u175, u176, u177, u178, u179, u180, u181, u182, u183, u184, u185, u186, u187, u188, u189, u190, u191, u192, u193, u194, u195, u196, u197, u198, u199, u200, u201, u202, u203, u204, u205, u206, u207, u208, u209, u210, u211, u212, u213, u214], []⟩ w2 := by
 have HA := Aside0.mk hA
 have HB0 := Aside0.mk hB0
 have HT1 := Aside0.mk hT1
 have HT2 := Aside0.mk hT2
 have HT3 := Aside0.mk hT3
 have HQf := Aside0.mk hQ
 have HPQ := Aside0.mk hP
 have HS2 := Aside0.mk hS2
 have HV := Aside0.mk hV
 clear hP hQ hS2 hV hA hB0 hT1 hT2 hT3
 dsimp (config := { beta := false, eta := false, iota := false, proj := false, decide := false }) only
 conv in (behindOf _ _) => whnf
 go_upto_region 9 with (fail)
 by_cases hcase : v = 3
 · skip
   have u3 : ((v : Int) == 3) = true := beq_iff_eq.2 (by omega)
   have HP := Aside0.mk (patNext_well ins calls rets xs k v HV.out hcase)
   clear hcase
   have HQ := HS2
   have HFK : Aside0 (Kd.FK kPt w2 (fun _ => False) ⟨4, [], [], []⟩ [.int .i64 4, .slice none 0 0, .slice none 0 0, .slice none 0 0]) := ⟨k37_mkF w2 _ ⟨4, [], [], []⟩ (show 0 ≤ 0 from Nat.le_refl _) (Kd.F_nil _ _ _) (show 0 ≤ 0 from Nat.le_refl _) (Kd.F_nil _ _ _) (show 0 ≤ 0 from Nat.le_refl _) (Kd.F_nil _ _ _)⟩
   go_wp2_with ((with_reducible refine gate_builtin (b := .append) (xs := #[.tmp 58, .tmp 60]) rfl ?_); refine Kd.N_append kPt (w0 := w1) w1.heap.size ?hg (.tmp 58) (.tmp 60) 35 37 (.agg #[.int .i64 0, .slice none 0 0, .slice none 0 0, .slice none 0 0]) 80 rfl ?ht (by as_aux_lemma => kernel_rfl) rfl (by decide) (by decide) (.slice B xs.length d) xs (⟨4, [], [], []⟩) [.int .i64 4, .slice none 0 0, .slice none 0 0, .slice none 0 0] (fun q => okA q ∨ w1.heap.size ≤ q) (fun _ => False) rfl ?hx HFK.out (fun q hq => hq.elim) (fun q hq => Or.inr (Nat.le_trans HQ.out.b.size hq)) HQ.out.n HQ.out.b HQ.out.b.size (by omega) ?_; (case hg => rfl); (case hx => first | rfl | simp [Act.eval]); (case ht => exact Tryd.underlying35); intro v9 w4 hN hB hgr hat; obtain ⟨A9, c9, hv9⟩ := Kd.N_slice hN; subst hv9; have HX := Aside0.mk (PatAt.mk hN hB); clear hN hB hgr hat)
   first | skip | go_wp2
   refine HQf.out _ _ _ _ _ _ _ _ _ _ _ _ _ _ _ _ _ _ _ _ _ _ _ _ _ _ _ _ _ _ _ _ _ _ _ _ _ _ _ _ _ _ _ _ _ _ _ _ _ _ _ _ _ _ _ _ _ _ _ _ _ _ _ _ _ _ _ _ _ _ _ _ _ _ _ _ _ _ _ _ _ _ _ _ _ _ _ _ _ _ _ _ _ _ _ _ _ _ _ _ _ _ _ _ _ _ _ _ _ _ _ _ _ _ _ _ _ _ _ _ _ _ _ _ _ _ _ _ _ _ _ _ _ _ _ _ _ _ _ A9 _ c9 (xs ++ [⟨4, [], [], []⟩]) _ (by rw [List.length_append]; rfl) HP.out (by simp) (by have h := HX.out; rw [List.length_append] at h; exact h)
 · skip
   have u3 : ((v : Int) == 3) = false := beq_eq_false_iff_ne.2 (by omega)
   go_upto_region 11 with (fail)
   by_cases hc4 : v = 4
   · skip
     have u4 : ((v : Int) == 4) = true := beq_iff_eq.2 (by omega)
     have hcase : v = 4 := hc4
     clear hc4
     have HP := Aside0.mk (patNext_empty ins calls rets xs k v HV.out hcase)
     clear hcase
     have HQ := HS2
     have HFK : Aside0 (Kd.FK kPt w2 (fun _ => False) ⟨1, [], [], []⟩ [.int .i64 1, .slice none 0 0, .slice none 0 0, .slice none 0 0]) := ⟨k37_mkF w2 _ ⟨1, [], [], []⟩ (show 0 ≤ 0 from Nat.le_refl _) (Kd.F_nil _ _ _) (show 0 ≤ 0 from Nat.le_refl _) (Kd.F_nil _ _ _) (show 0 ≤ 0 from Nat.le_refl _) (Kd.F_nil _ _ _)⟩
     go_wp2_with ((with_reducible refine gate_builtin (b := .append) (xs := #[.tmp 65, .tmp 67]) rfl ?_); refine Kd.N_append kPt (w0 := w1) w1.heap.size ?hg (.tmp 65) (.tmp 67) 35 37 (.agg #[.int .i64 0, .slice none 0 0, .slice none 0 0, .slice none 0 0]) 80 rfl ?ht (by as_aux_lemma => kernel_rfl) rfl (by decide) (by decide) (.slice B xs.length d) xs (⟨1, [], [], []⟩) [.int .i64 1, .slice none 0 0, .slice none 0 0, .slice none 0 0] (fun q => okA q ∨ w1.heap.size ≤ q) (fun _ => False) rfl ?hx HFK.out (fun q hq => hq.elim) (fun q hq => Or.inr (Nat.le_trans HQ.out.b.size hq)) HQ.out.n HQ.out.b HQ.out.b.size (by omega) ?_; (case hg => rfl); (case hx => first | rfl | simp [Act.eval]); (case ht => exact Tryd.underlying35); intro v9 w4 hN hB hgr hat; obtain ⟨A9, c9, hv9⟩ := Kd.N_slice hN; subst hv9; have HX := Aside0.mk (PatAt.mk hN hB); clear hN hB hgr hat)
     first | skip | go_wp2
     refine HQf.out _ _ _ _ _ _ _ _ _ _ _ _ _ _ _ _ _ _ _ _ _ _ _ _ _ _ _ _ _ _ _ _ _ _ _ _ _ _ _ _ _ _ _ _ _ _ _ _ _ _ _ _ _ _ _ _ _ _ _ _ _ _ _ _ _ _ _ _ _ _ _ _ _ _ _ _ _ _ _ _ _ _ _ _ _ _ _ _ _ _ _ _ _ _ _ _ _ _ _ _ _ _ _ _ _ _ _ _ _ _ _ _ _ _ _ _ _ _ _ _ _ _ _ _ _ _ _ _ _ _ _ _ _ _ _ _ _ _ _ A9 _ c9 (xs ++ [⟨1, [], [], []⟩]) _ (by rw [List.length_append]; rfl) HP.out (by simp) (by have h := HX.out; rw [List.length_append] at h; exact h)
   · skip
     have u4 : ((v : Int) == 4) = false := beq_eq_false_iff_ne.2 (by omega)
     go_upto_region 13 with (fail)
     by_cases hc5 : v = 5
     · skip
       have u5 : ((v : Int) == 5) = true := beq_iff_eq.2 (by omega)
       have hcase : v = 5 := hc5
       clear hc5
       have HP := Aside0.mk (patNext_in ins calls rets xs k v HV.out hcase)
       clear hcase
       go_upto_region 14 with (fail)
       refine pat_reg14 (k := k) (ins := ins) (calls := calls) (rets := rets) (A1 := A1) (A2 := A2) (A3 := A3) (c1 := c1) (c2 := c2) (c3 := c3) (d := d) (okA := okA) HA.out HB0.out HT2.out HT3.out HS2.out (by omega) (fun c a a' w hd h => HPQ.out c a a' w hd h) ?_
       intro v72 v73 v74 v75 v76 v77 v78 v79 v80 v81 v82 v83 v84 v85 v86 v87 v88 v89 v90 v91 A9 n9 c9 w9 h9 hx9
       have HX := Aside0.mk hx9
       have HN9 := Aside0.mk h9
       clear hx9 h9
       first | skip | go_wp2
       obtain rfl := HN9.out
       refine HQf.out _ _ _ _ _ _ _ _ _ _ _ _ _ _ _ _ _ _ _ _ _ _ _ _ _ _ _ _ _ _ _ _ _ _ _ _ _ _ _ _ _ _ _ _ _ _ _ _ _ _ _ _ _ _ _ _ _ _ _ _ _ _ _ _ _ _ _ _ _ _ _ _ _ _ _ _ _ _ _ _ _ _ _ _ _ _ _ _ _ _ _ _ _ _ _ _ _ _ _ _ _ _ _ _ _ _ _ _ _ _ _ _ _ _ _ _ _ _ _ _ _ _ _ _ _ _ _ _ _ _ _ _ _ _ _ _ _ _ _ A9 _ c9 (xs ++ [⟨3, pickS calls (wrap64 (k.tdiv 11)), pickS rets (wrap64 (k.tdiv 13)), [⟨if bits .and .i64 (wrap64 (k.tdiv 17)) 1 = 1 then 4 else 1, [], [], []⟩]⟩]) w9 rfl HP.out ?_ HX.out
       first | (have := HJ.out; simp; omega) | simp
     · skip
       have u5 : ((v : Int) == 5) = false := beq_eq_false_iff_ne.2 (by omega)
       go_upto_if 69 with (fail)
       refine pat_c13 (k := k) (ins := ins) (calls := calls) (rets := rets) (A1 := A1) (A2 := A2) (A3 := A3) (c1 := c1) (c2 := c2) (c3 := c3) (d := d) (okA := okA) HA.out HB0.out HT1.out HT2.out HT3.out HS2.out HV.out (by omega) hv11 (hx5 (by omega)) hM8 (fun c a a' w hd h => HPQ.out c a a' w hd h) ?_
       intro v92 v93 v94 v95 v96 v97 v98 v99 v100 v101 v102 v103 v104 v105 v106 v107 v108 v109 v110 v111 v112 v113 v114 v115 v116 v117 v118 v119 v120 v121 v122 v123 v124 v125 v126 v127 v128 v129 v130 v131 v132 v133 v134 v135 v136 v137 v138 v139 v140 v141 v142 v143 v144 v145 v146 v147 v148 v149 v150 v151 v152 v153 v154 v155 v156 v157 v158 v159 v160 v161 v162 v163 v164 v165 v166 v167 v168 v169 v170 v171 v172 v173 v174 v175 v176 v177 v178 v179 v180 v181 v182 v183 v184 v185 v186 v187 v188 v189 v190 v191 v192 v193 A9 n9 c9 xs9 w9 h1 h2 h3 h4
       exact HQf.out _ _ _ _ _ _ _ _ _ _ _ _ _ _ _ _ _ _ _ _ _ _ _ _ _ _ _ _ _ _ _ _ _ _ _ _ _ _ _ _ _ _ _ _ _ _ _ _ _ _ _ _ _ _ _ _ _ _ _ _ _ _ _ _ _ _ _ _ _ _ _ _ _ _ _ _ _ _ _ _ _ _ _ _ _ _ _ _ _ _ _ _ _ _ _ _ _ _ _ _ _ _ _ _ _ _ _ _ _ _ _ _ _ _ _ _ _ _ _ _ _ _ _ _ _ _ _ _ _ _ _ _ _ _ _ _ _ _ _ A9 n9 c9 xs9 w9 h1 h2 h3 h4
end Go.Proofs.YthdfmbmbjpmlaaaDoor.Rn
end
section
set_option linter.unusedVariables false
set_option linter.unusedSimpArgs false
namespace Go.Proofs.YthdfmbmbjpmlaaaDoor.Rn
open Go Go.RowKit Go.Proofs.YthdfmbmbjpmlaaaDoorW.PrintWords Go.Proofs.YthdfmbmbjpmlaaaDoorW.PrintLast Go.Proofs.YthdfmbmbjpmlaaaDoorW.PrintMore
set_option maxHeartbeats 200000000 in
set_option maxRecDepth 100000 in
theorem pat_reg29 {Q : Exit → Act → World → Prop} {u0 u1 u2 u3 u4 u5 u6 u7 u8 u10 u11 u12 u13 u16 u17 u18 u19 u20 u21 u22 u23 u24 u25 u26 u27 u28 u29 u30 u31 u32 u33 u34 u35 u36 u37 u38 u39 u40 u41 u42 u43 u44 u45 u46 u47 u48 u49 u50 u51 u52 u53 u54 u55 u56 u57 u58 u59 u60 u61 u62 u63 u64 u65 u66 u67 u68 u69 u70 u71 u72 u73 u74 u75 u76 u77 u78 u79 u80 u81 u82 u83 u84 u85 u86 u87 u88 u89 u90 u91 u92 u93 u94 u95 u96 u97 u98 u99 u100 u101 u102 u103 u104 u105 u106 u107 u108 u109 u110 u111 u112 u113 u114 u115 u116 u117 u118 u119 u120 u121 u122 u123 u124 u125 u126 u127 u128 u129 u130 u131 u132 u133 u134 u135 u136 u137 u138 u139 u140 u141 u142 u143 u144 u145 u146 u147 u148 u149 u150 u151 u152 u153 u154 u155 u156 u157 u158 u159 u160 u161 u162 u163 u164 u165 u166 u167 u168 u169 u170 u171 u172 u173 u174 u175 u176 u177 u178 u179 u180 u181 u182 u183 u184 u185 u186 u187 u188 u189 u190 u191 u192 u193 u194 u195 u196 u197 u198 u199 u200 u201 u202 u203 u204 u205 u206 u207 u208 u209 u210 u211 u212 u213 u214 : Value} {W w1 w2 : World} {okA : Nat → Prop} {xs : List Pt} {k : Int} {ins calls rets : List ByteArray} {A1 A2 A3 : Option Addr} {c1 c2 c3 : Nat} {d : Nat} {g2 gC n : Nat} {wS : World} {pq : Pt} (hA : ∀ q, okA q → q < W.heap.size) (hB0 : Below W.heap.size W w1) (hQ0 : PatAt w1 wS okA (.slice (some ⟨g2, 0, none⟩) xs.length d) xs) (hS0 : SeqAt wS w2 gC (fun q => (okA q ∨ w1.heap.size ≤ q) ∧ q ≠ gC) pq) (hgC : wS.heap.size = gC) (hlt : n + 1 < xs.length) (hx8 : xs.length ≤ 8)
 (hP : ∀ (c : List PanicEntry) (a a' : Act) (w : World), a'.defers = a.defers → Q (.panic c) a' w → Q (.panic c) a w) (hQ : ∀ (v207 v208 v209 v210 v211 v212 v213 : Value) (w9 : World), SeqAt wS w9 gC (fun q => (okA q ∨ w1.heap.size ≤ q) ∧ q ≠ gC) ⟨5, [], [], [pq, xs.getD (n + 1) ptZ]⟩ → Q .normal ⟨#[u0, u1, u2, u3, u4, u5, u6, u7, u8, .slice (some ⟨g2, 0, none⟩) xs.length d, u10, u11, u12, u13, .pointer (some ⟨gC, 0, none⟩), .int .i64 ((n : Int) + 1), u16, u17, u18, u19, u20, u21, u22, u23, u24, u25, u26, u27, u28, u29, u30, u31, u32, u33, u34, u35, u36, u37, u38, u39, u40, u41, u42, u43, u44, u45, u46, u47, u48, u49, u50, u51, u52, u53, u54, u55, u56, u57, u58, u59, u60, u61, u62, u63, u64, u65, u66, u67, u68, u69, u70, u71, u72, u73, u74, u75, u76, u77, u78, u79, u80, u81, u82, u83, u84, u85, u86, u87, u88, u89, u90, u91, u92, u93, u94, u95, u96, u97, u98, u99, u100, u101, u102, u103, u104, u105, u106, u107, u108, u109, u110, u111, u112, u113, u114, u115, u116, u117, u118, u119, u120, u121, u122, u123, u124, u125, u126, u127, u128, u129, u130, u131, u132, u133, u134, u135, u136, u137, u138, u139, u140, u141, u142, u143, u144, u145, u146, u147, u148, u149, u150, u151, u152, u153, u154, u155, u156, u157, u158, u159, u160, u161, u162, u163, u164, u165, u166, u167, u168, u169, u170, u171, u172, u173, u174, u175, u176, u177, u178, u179, u180, u181, u182, u183, u184, u185, u186, u187, u188, u189, u190, u191, u192, u193, u194, u195, u196, u197, u198, u199, u200, u201, u202, u203, u204, u205, u206, v207, v208, v209, v210, v211, v212, v213, u214], []⟩ w9) :
 Code.wp Tryd.prog (Code.region 29 (opsOf Tryd.f17 29) true) Q ⟨#[u0, u1, u2, u3, u4, u5, u6, u7, u8, .slice (some ⟨g2, 0, none⟩) xs.length d, u10, u11, u12, u13, .pointer (some ⟨gC, 0, none⟩), .int .i64 ((n : Int) + 1), u16, u17, u18, u19, u20, u21, u22, u23, u24, u25, u26, u27, u28, u29, u30, u31, u32, u33, u34, u35, u36, u37, u38, u39, u40, u41, u42, u43, u44, u45, u46, u47, u48, u49, u50, u51, u52, u53, u54, u55, u56, u57, u58, u59, u60, u61, u62, u63, u64, u65, u66, u67, u68, u69, u70, u71, u72, u73, u74, u75, u76, u77, u78, u79, u80, u81, u82, u83, u84, u85, u86, u87, u88, u89, u90, u91, u92, u93, u94, u95, u96, u97, u98, u99, u100, u101, u102, u103, u104, u105, u106, u107, u108, u109, u110, u111, u112, u113, u114, u115, u116, u117, u118, u119, u120, u121, u122, u123, u124, u125, u126, u127, u128, u129, u130, u131, u132, u133, u134, u135, u136, u137, u138, u139, u140, u141, u142, u143, u144, u145, u146, u147, u148, u149, u150, u151, u152, u153, u154, u155, u156, u157, u158, u159, u160, u161, u162, u163, u164, u165, u166, u167, u168, u169, u170, u171, u172, u173, u174, u175, u176, u177, u178, u179, u180, u181, u182, u183, u184, u185, u186, u187, u188, u189, u190, u191, u192, u193, u194, u195, u196, u197, u198, u199, u200, u201, u202, u203, u204, u205, u206, u207, u208, u209, u210, u211, u212, u213, u214], []⟩ w2 := by
 have HA := Aside0.mk hA
 have HB0 := Aside0.mk hB0
 have HQf := Aside0.mk hQ
 have HPQ := Aside0.mk hP
 clear hP hQ hA hB0
 conv in (opsOf _ _) => whnf
 have HQ := Aside0.mk hQ0
 have HGC := Aside0.mk hgC
 have HS2 : Aside0 (SeqAt wS w2 gC (fun q => (okA q ∨ w1.heap.size ≤ q) ∧ q ≠ gC) pq ∧ True) := ⟨⟨hS0, trivial⟩⟩
 obtain ⟨csq, hbq, hFKq⟩ := HS2.out.1.h
 obtain ⟨P1q, r1q, P2q, r2q, P3q, r3q, rfl, _, _, _, _, _, _⟩ := k37_open (Kd.FK_now hFKq)
 have HEq := Aside0.mk hFKq
 have HBq := Aside0.mk hbq
 clear hbq hFKq hS0 hQ0 hgC
 obtain ⟨csb, hclb, hFKb, hccb, _⟩ := Kd.N_elem HQ.out.n ptZ ((n + 1 : Nat) : Int) (by omega) (by omega)
 rw [Int.toNat_natCast] at hFKb hccb
 obtain ⟨pb, hpb⟩ : ∃ p, xs.getD (n + 1) ptZ = p := ⟨_, rfl⟩
 rw [hpb] at hFKb
 obtain ⟨P1b, r1b, P2b, r2b, P3b, r3b, rfl, _, _, _, _, _, _⟩ := k37_open (Kd.FK_now hFKb)
 have HEb := Aside0.mk (Kd.FK_bound hFKb)
 have HCb := Aside0.mk hccb
 have HPB := Aside0.mk hpb
 have hi1 : (n : Int) + 1 < (xs.length : Int) := by omega
 have hi0 : (0 : Int) ≤ (n : Int) + 1 := by omega
 have hn8 : (n : Int) ≤ 8 := by omega
 have hjk1 := pat_k1 n hn8
 clear hccb hclb hFKb hpb hlt hx8
 obtain ⟨wd, hwd⟩ : ∃ x, w2.drew = x := ⟨_, rfl⟩
 have HDR : Aside0 (Below w2.heap.size w2 wd) := ⟨hwd ▸ below_drew1 (Below.refl _ _)⟩
 have HLW := HDR
 refine Ord.region_L (S := fun w' => ∃ p : Later w2, w' = p.wx) (L := 7) (by as_aux_lemma => kernel_rfl) ?_
 rw [hwd]
 clear hwd
 have yq0 : ∀ p : Later w2, p.wx.cell? ⟨gC, 0, none⟩ = some (.int .i64 pq.f0) := fun p => cell_after p.below ((blk_cell HBq.out 0).trans rfl)
 have yq1 : ∀ p : Later w2, p.wx.cell? ⟨gC, 1, none⟩ = some (.slice P1q pq.f1.length r1q) := fun p => cell_after p.below ((blk_cell HBq.out 1).trans rfl)
 have yq2 : ∀ p : Later w2, p.wx.cell? ⟨gC, 2, none⟩ = some (.slice P2q pq.f2.length r2q) := fun p => cell_after p.below ((blk_cell HBq.out 2).trans rfl)
 have yq3 : ∀ p : Later w2, p.wx.cell? ⟨gC, 3, none⟩ = some (.slice P3q pq.f3.length r3q) := fun p => cell_after p.below ((blk_cell HBq.out 3).trans rfl)
 have yb0 : ∀ p : Later w2, p.wx.cell? ⟨g2, (n + 1) * 4 + 0, none⟩ = some (.int .i64 pb.f0) := fun p => cell_after p.below (cell_after HS2.out.1.b (HCb.out 0 _ rfl))
 have yb1 : ∀ p : Later w2, p.wx.cell? ⟨g2, (n + 1) * 4 + 1, none⟩ = some (.slice P1b pb.f1.length r1b) := fun p => cell_after p.below (cell_after HS2.out.1.b (HCb.out 1 _ rfl))
 have yb2 : ∀ p : Later w2, p.wx.cell? ⟨g2, (n + 1) * 4 + 2, none⟩ = some (.slice P2b pb.f2.length r2b) := fun p => cell_after p.below (cell_after HS2.out.1.b (HCb.out 2 _ rfl))
 have yb3 : ∀ p : Later w2, p.wx.cell? ⟨g2, (n + 1) * 4 + 3, none⟩ = some (.slice P3b pb.f3.length r3b) := fun p => cell_after p.below (cell_after HS2.out.1.b (HCb.out 3 _ rfl))
 simp only [Nat.add_zero] at yb0
 ((refine Ord.takeL (i := 0) (by rfl) (by as_aux_lemma => kernel_rfl) ?_ ?_ ?_); (focus first | exact fun _ _ _ _ h => h | exact fun _ _ _ _ h => HPQ.out _ _ _ _ (by rfl) h); (focus exact ⟨⟨_, HLW.out⟩, rfl⟩); intro K hK; go_simp; (with_reducible refine hK _ ?_); clear hK K)
 ((refine Ord.takeL (i := 1) (by rfl) (by as_aux_lemma => kernel_rfl) ?_ ?_ ?_); (focus first | exact fun _ _ _ _ h => h | exact fun _ _ _ _ h => HPQ.out _ _ _ _ (by rfl) h); (focus exact ⟨⟨_, HLW.out⟩, rfl⟩); intro K hK; go_simp; (with_reducible refine hK _ ?_); clear hK K)
 ((refine Ord.takeL (i := 2) (by rfl) (by as_aux_lemma => kernel_rfl) ?_ ?_ ?_); (focus first | exact fun _ _ _ _ h => h | exact fun _ _ _ _ h => HPQ.out _ _ _ _ (by rfl) h); (focus exact ⟨⟨_, HLW.out⟩, rfl⟩); intro K hK; go_simp; (with_reducible refine hK _ ?_); clear hK K)
 ((refine Ord.takeL (i := 3) (by rfl) (by as_aux_lemma => kernel_rfl) ?_ ?_ ?_); (focus first | exact fun _ _ _ _ h => h | exact fun _ _ _ _ h => HPQ.out _ _ _ _ (by rfl) h); (focus exact ⟨⟨_, HLW.out⟩, rfl⟩); intro K hK; go_simp; (with_reducible refine hK _ ?_); clear hK K)
 ((refine Ord.takeL (i := 4) (by rfl) (by as_aux_lemma => kernel_rfl) ?_ ?_ ?_); (focus first | exact fun _ _ _ _ h => h | exact fun _ _ _ _ h => HPQ.out _ _ _ _ (by rfl) h); (focus exact ⟨⟨_, HLW.out⟩, rfl⟩); intro K hK; go_simp; (with_reducible refine hK _ ?_); clear hK K)
 clear yq0 yq1 yq2 yq3 yb0 yb1 yb2 yb3 hjk1 hi1 hi0
 have HQ0 := HQ
 have HQ := Aside0.mk (HQ.out.later (join_below HS2.out.1.b HDR.out))
 refine Ord.allL1 (i := 5) (by as_aux_lemma => kernel_rfl) (by rfl) (fun K hK => ?_)
 go_simp
 obtain ⟨wB, hv⟩ : ∃ x, wd.alloc (.cells #[.int .i64 pq.f0, .slice P1q pq.f1.length r1q, .slice P2q pq.f2.length r2q, .slice P3q pq.f3.length r3q, .int .i64 pb.f0, .slice P1b pb.f1.length r1b, .slice P2b pb.f2.length r2b, .slice P3b pb.f3.length r3b] 37) = x := ⟨_, rfl⟩
 rw [hv]
 obtain ⟨gB, hg⟩ : ∃ x, wd.heap.size = x := ⟨_, rfl⟩
 rw [hg]
 have BKB : Aside0 (wB.heap[gB]? = some (.cells #[.int .i64 pq.f0, .slice P1q pq.f1.length r1q, .slice P2q pq.f2.length r2q, .slice P3q pq.f3.length r3q, .int .i64 pb.f0, .slice P1b pb.f1.length r1b, .slice P2b pb.f2.length r2b, .slice P3b pb.f3.length r3b] 37 (0, 0))) := ⟨by rw [← hv, ← hg]; exact blk_new _ _⟩
 have STB : Aside0 (Below wd.heap.size wd wB) := ⟨hv ▸ below1 _ _⟩
 have GSB : Aside0 (wd.heap.size = gB) := ⟨hg⟩
 have HLW := Aside0.mk (join_below HLW.out STB.out)
 have HQB := HQ
 have HQ := Aside0.mk (HQ.out.later STB.out)
 clear hv hg
 refine hK _ _ ⟨⟨_, HLW.out⟩, rfl⟩ ?_
 clear hK K
 ((refine Ord.takeL (i := 6) (by rfl) (by as_aux_lemma => kernel_rfl) ?_ ?_ ?_); (focus first | exact fun _ _ _ _ h => h | exact fun _ _ _ _ h => HPQ.out _ _ _ _ (by rfl) h); (focus exact ⟨⟨_, HLW.out⟩, rfl⟩); intro K hK; go_simp; (with_reducible refine hK _ ?_); clear hK K)
 have y0 : World.cell? wB ⟨gC, 0, none⟩ = some (.int .i64 pq.f0) := cell_after HLW.out ((blk_cell HBq.out 0).trans rfl)
 have z0 := blk_frozen (blk_below HBq.out HLW.out) 0
 have y1 : World.cell? wB ⟨gC, 1, none⟩ = some (.slice P1q pq.f1.length r1q) := cell_after HLW.out ((blk_cell HBq.out 1).trans rfl)
 have z1 := blk_frozen (blk_below HBq.out HLW.out) 1
 have y2 : World.cell? wB ⟨gC, 2, none⟩ = some (.slice P2q pq.f2.length r2q) := cell_after HLW.out ((blk_cell HBq.out 2).trans rfl)
 have z2 := blk_frozen (blk_below HBq.out HLW.out) 2
 have y3 : World.cell? wB ⟨gC, 3, none⟩ = some (.slice P3q pq.f3.length r3q) := cell_after HLW.out ((blk_cell HBq.out 3).trans rfl)
 have z3 := blk_frozen (blk_below HBq.out HLW.out) 3
 refine Ord.lastL (by as_aux_lemma => kernel_rfl) (by rfl) (by decide) (fun K hK => ?_)
 go_simp
 clear y0 y1 y2 y3 z0 z1 z2 z3
 refine hK _ _ ?_
 clear hK K
 have hgB : w1.heap.size ≤ gB ∧ gC < gB := by have h1 := blk_lt HBq.out; have h2 := HDR.out.size; have h3 := GSB.out; have h4 := HQB.out.b.size; omega
 have HTW : Aside0 (Kd.F kPt wB (fun q => q = gB ∨ ((okA q ∨ w1.heap.size ≤ q) ∧ q ≠ gC)) (some ⟨gB, 0, none⟩) 2 [pq, pb]) := ⟨f_two BKB.out rfl (Kd.FK_below HEq.out HLW.out) (Kd.FK_below HEb.out (join_below HS2.out.1.b HLW.out)) (fun q h => h) (fun q h => ⟨h.1.1, by have h1 := h.2; have h2 := HGC.out; omega⟩)⟩
 have HX : Aside0 (SeqAt wS ((((wB.setCell ⟨gC, 0, none⟩ (.int .i64 5)).setCell ⟨gC, 1, none⟩ (.slice none 0 0)).setCell ⟨gC, 2, none⟩ (.slice none 0 0)).setCell ⟨gC, 3, none⟩ (.slice (some ⟨gB, 0, none⟩) 2 2)) gC (fun q => (okA q ∨ w1.heap.size ≤ q) ∧ q ≠ gC) ⟨5, [], [], [pq, pb]⟩) := ⟨⟨⟨[.int .i64 5, .slice none 0 0, .slice none 0 0, .slice (some ⟨gB, 0, none⟩) 2 2], blk_put4 _ _ _ _ _ _ _ _ (blk_below HBq.out HLW.out), fk_put4 _ _ _ _ _ _ _ _ (Kd.FK_mono (k37_mkF wB _ ⟨5, [], [], [pq, pb]⟩ (show 0 ≤ 0 from Nat.le_refl _) (Kd.F_nil _ _ _) (show 0 ≤ 0 from Nat.le_refl _) (Kd.F_nil _ _ _) (show 2 ≤ 2 from Nat.le_refl _) HTW.out) (fun q hq => by rcases hq with hq | hq; (· exact ⟨Or.inr (by omega), by omega⟩); (· exact hq))) (fun q hq => hq.2)⟩, below_put4 (Nat.le_of_eq HGC.out) _ _ _ _ _ _ _ _ (join_below HS2.out.1.b HLW.out)⟩⟩
 clear hgB
 obtain rfl := HPB.out
 refine wpAnyH_done (by as_aux_lemma => kernel_rfl) ?_ _
 exact HQf.out _ _ _ _ _ _ _ _ HX.out
end Go.Proofs.YthdfmbmbjpmlaaaDoor.Rn
end
section
set_option linter.unusedVariables false
set_option linter.unusedSimpArgs false
namespace Go.Proofs.YthdfmbmbjpmlaaaDoor.Rn
open Go Go.RowKit Go.Proofs.YthdfmbmbjpmlaaaDoorW.PrintWords Go.Proofs.YthdfmbmbjpmlaaaDoorW.PrintLast Go.Proofs.YthdfmbmbjpmlaaaDoorW.PrintMore
set_option maxHeartbeats 200000000 in
set_option maxRecDepth 100000 in
theorem pattern_gen (ins calls rets : List ByteArray) (A1 A2 A3 : Option Addr) (c1 c2 c3 : Nat) (ks : List Int) (A : Option Addr) (c : Nat) (okA : Nat → Prop) (W : World) (hA : ∀ q, okA q → q < W.heap.size) (h1 : TxtIn W okA A1 ins c1) (h2 : TxtIn W okA A2 calls c2) (h3 : TxtIn W okA A3 rets c3) (hC : Kd.C (Kd.int .i64) W A ks.length ks) :
 Calls Tryd.prog 17 #[.slice A ks.length c, .slice A1 ins.length c1, .slice A2 calls.length c2, .slice A3 rets.length c3] W (PatPost okA (madeP ins calls rets ks) W) := by
 have HA := Aside0.mk hA
 have HT1 := Aside0.mk h1
 have HT2 := Aside0.mk h2
 have HT3 := Aside0.mk h3
 have HC := Aside0.mk hC
 have hl : ks.length ≤ 9223372036854775807 := hC.2.1
 clear hA h1 h2 h3 hC
 obtain ⟨res, hres⟩ : ∃ r, patRun ins calls rets [] (ks.take 8) = r := ⟨_, rfl⟩
 have HR : Aside0 (patRun ins calls rets [] ((ks.take 8).drop 0) = res) := ⟨hres⟩
 clear hres
 go_enter Tryd.func17, Tryd.ntmps17
 go_wp2
 obtain ⟨w1, hw1⟩ : ∃ x, W.alloc (.cells #[.int .i64 0, .slice none 0 0, .slice none 0 0, .slice none 0 0] 37) = x := ⟨_, rfl⟩
 have HB0 : Aside0 (Below W.heap.size W w1) := ⟨hw1 ▸ below1 _ _⟩
 have HK8 : Aside0 (w1.heap[W.heap.size]? = some (.cells #[.int .i64 0, .slice none 0 0, .slice none 0 0, .slice none 0 0] 37 (0, 0))) := ⟨by rw [← hw1]; exact blk_new _ _⟩
 rw [hw1]
 clear hw1
 go_loopw [9, 10] (fun v i w => ∃ (m : Nat) (B : Option Addr) (d : Nat) (xs : List Pt), v = .slice B xs.length d ∧ i = .int .i64 (m : Int) ∧ m ≤ (ks.take 8).length ∧ xs.length ≤ m ∧ Aside0 (PatAt w1 w okA (.slice B xs.length d) xs ∧ patRun ins calls rets xs ((ks.take 8).drop m) = res)) (fun _ i _ => (ks.take 8).length - (intOf i).toNat)
 case atStart => exact ⟨0, none, 0, [], rfl, rfl, Nat.zero_le _, Nat.le_refl _, ⟨⟨Kd.N_nil _ _ _ _ _, Below.refl _ _⟩, HR.out⟩⟩
 case round =>
  obtain ⟨m, B, d, xs, rfl, rfl, hm, hx, HS⟩ := hrel
  by_cases hlt : m < (ks.take 8).length
  · have hlt2 : m < ks.length ∧ m < 8 := by rw [List.length_take] at hlt; omega
    have e1 : decide (m < ks.length) = true := decide_eq_true hlt2.1
    have e2 : decide ((m : Int) < 8) = true := decide_eq_true (by omega)
    obtain ⟨k, hk⟩ : ∃ k, (ks.take 8)[m]? = some k := ⟨_, List.getElem?_eq_getElem hlt⟩
    have hk' : ks[m]? = some k := by
     rw [List.getElem?_take, if_pos hlt2.2] at hk
     exact hk
    obtain ⟨g, o, rfl, _, hcell⟩ := row_cells HC.out (by omega) (by decide)
    obtain ⟨cs, hcl, hK, hcc⟩ := hcell m k hk'
    have hck : cs = [.int .i64 k] := hK
    subst hck
    have y0 := cell_after (join_below HB0.out HS.out.1.b) (hcc 0 (.int .i64 k) rfl)
    rw [Nat.add_zero, show m * (Kd.int .i64).sz = m from Nat.mul_one m] at y0
    have HST := Aside0.mk (patRun_step (ins := ins) (calls := calls) (rets := rets) (xs := xs) hk)
    have HM := Aside0.mk (And.intro hlt (And.intro hm hx))
    clear hcell hcc hcl hK hk hk' hlt
    go_upto_block 1 with (fail)
    go_cut [9] (fun v9 w' => ∃ (B' : Option Addr) (d' : Nat) (xs' : List Pt), v9 = .slice B' xs'.length d' ∧ Aside0 (xs'.length ≤ m + 1 ∧ PatAt w1 w' okA (.slice B' xs'.length d') xs' ∧ patRun ins calls rets xs' ((ks.take 8).drop (m + 1)) = res))
    case rest =>
     obtain ⟨B', d', xs', rfl, HC2⟩ := hcut
     have HM2 := HM.out
     clear e1 e2 y0
     go_wp2
     go_roundw
     case rel => exact ⟨m + 1, B', d', xs', rfl, by go_num, by omega, HC2.out.1, ⟨HC2.out.2⟩⟩
     case measure => simp [intOf]; omega
    go_upto_region 5 with (fail)
    go_quiet (fail)
    obtain ⟨w2, hw2⟩ : ∃ x, wr.drewN nq = x := ⟨_, rfl⟩
    have HS2 : Aside0 (PatAt w1 w2 okA (.slice B xs.length d) xs) := ⟨HS.out.1.later (hw2 ▸ pw_below_drewN (Below.refl _ _) _)⟩
    rw [hw2]
    clear hw2 y0 e1 e2
    obtain ⟨v, hv⟩ : ∃ v : Nat, IntKind.u64.wrap k % 11 = (v : Int) := ⟨(IntKind.u64.wrap k % 11).toNat, by omega⟩
    have hv11 : v < 11 := by omega
    have e3 : wrap64 ((IntKind.u64.wrap k).tmod 11) = (v : Int) := by
     rw [Int.tmod_eq_emod_of_nonneg (wrap_u0 k).1, hv]
     unfold wrap64
     omega
    have HV := Aside0.mk hv
    clear hv
    go_upto_region 7 with (fail)
    rw [e3]
    clear e3
    go_cut [36] (fun vv w' => vv = .bool (decide (v < 3 ∨ (xs.length = 0 ∧ 5 < v))) ∧ w' = w2)
    case first =>
     have hcase : v < 3 ∨ (¬ v < 3 ∧ xs.length = 0 ∧ 5 < v) ∨ (¬ v < 3 ∧ xs.length = 0 ∧ ¬ 5 < v) ∨ (¬ v < 3 ∧ ¬ xs.length = 0) := by omega
     rcases hcase with hc | ⟨hc, hx0, hc5⟩ | ⟨hc, hx0, hc5⟩ | ⟨hc, hx0⟩
     · skip
       have t3 : decide ((v : Int) < 3) = true := decide_eq_true (by omega)
       have HRES : Aside0 (decide (v < 3 ∨ (xs.length = 0 ∧ 5 < v)) = true) := ⟨decide_eq_true (by omega)⟩
       clear hc
       go_wp2
       go_meet
       case rel => exact ⟨congrArg Value.bool HRES.out.symm, rfl⟩
     · skip
       have t3 : decide ((v : Int) < 3) = false := decide_eq_false (by omega)
       have t5 : decide (5 < (v : Int)) = true := decide_eq_true (by omega)
       have l0 : ((xs.length : Int) == 0) = true := beq_iff_eq.2 (by omega)
       have HRES : Aside0 (decide (v < 3 ∨ (xs.length = 0 ∧ 5 < v)) = true) := ⟨decide_eq_true (by omega)⟩
       clear hc hx0 hc5
       go_wp2
       go_meet
       case rel => exact ⟨congrArg Value.bool HRES.out.symm, rfl⟩
     · skip
       have t3 : decide ((v : Int) < 3) = false := decide_eq_false (by omega)
       have t5 : decide (5 < (v : Int)) = false := decide_eq_false (by omega)
       have l0 : ((xs.length : Int) == 0) = true := beq_iff_eq.2 (by omega)
       have HRES : Aside0 (decide (v < 3 ∨ (xs.length = 0 ∧ 5 < v)) = false) := ⟨decide_eq_false (by omega)⟩
       clear hc hx0 hc5
       go_wp2
       go_meet
       case rel => exact ⟨congrArg Value.bool HRES.out.symm, rfl⟩
     · skip
       have t3 : decide ((v : Int) < 3) = false := decide_eq_false (by omega)
       have l0 : ((xs.length : Int) == 0) = false := beq_eq_false_iff_ne.2 (by omega)
       have HRES : Aside0 (decide (v < 3 ∨ (xs.length = 0 ∧ 5 < v)) = false) := ⟨decide_eq_false (by omega)⟩
       clear hc hx0
       go_wp2
       go_meet
       case rel => exact ⟨congrArg Value.bool HRES.out.symm, rfl⟩
    obtain ⟨rfl, hcw⟩ := hcut
    rw [hcw]
    clear hcw
    by_cases hT : v < 3 ∨ (xs.length = 0 ∧ 5 < v)
    · skip
      rw [decide_eq_true hT]
      have HP := Aside0.mk (patNext_tok ins calls rets xs k v HV.out hT)
      clear hT
      go_upto_region 8 with (fail)
      refine pat_reg8 (k := k) (ins := ins) (calls := calls) (rets := rets) (A1 := A1) (A2 := A2) (A3 := A3) (c1 := c1) (c2 := c2) (c3 := c3) (d := d) (okA := okA) HA.out HB0.out HT1.out HS2.out (by have := HM.out; omega) (fun _ a a' _ hd h => by obtain ⟨_, _⟩ := a; obtain ⟨_, _⟩ := a'; cases hd; exact h) ?_
      intro v47 v48 v49 v50 v51 v52 v53 v54 A9 n9 c9 w9 h9 hx9
      have HX := Aside0.mk hx9
      have HN9 := Aside0.mk h9
      clear hx9 h9
      go_wp2
      go_meet
      case rel => exact ⟨_, _, xs ++ [⟨2, pickS ins (wrap64 (k.tdiv 11)), [], []⟩], by rw [HN9.out], ⟨by have := HM.out; simp; omega, HX.out, by rw [← HP.out, ← HST.out]; exact HS.out.2⟩⟩
    · skip
      rw [decide_eq_false hT]
      have hv3 : 3 ≤ v := by omega
      have hx5 : 5 < v → 0 < xs.length := by omega
      clear hT
      go_upto_if 36 with (fail)
      refine pat_c7 (k := k) (ins := ins) (calls := calls) (rets := rets) (A1 := A1) (A2 := A2) (A3 := A3) (c1 := c1) (c2 := c2) (c3 := c3) (d := d) (okA := okA) HA.out HB0.out HT1.out HT2.out HT3.out HS2.out HV.out hv3 hv11 hx5 (by have := HM.out; omega) (fun _ a a' _ hd h => by obtain ⟨_, _⟩ := a; obtain ⟨_, _⟩ := a'; cases hd; exact h) ?_
      intro v55 v56 v57 v58 v59 v60 v61 v62 v63 v64 v65 v66 v67 v68 v69 v70 v71 v72 v73 v74 v75 v76 v77 v78 v79 v80 v81 v82 v83 v84 v85 v86 v87 v88 v89 v90 v91 v92 v93 v94 v95 v96 v97 v98 v99 v100 v101 v102 v103 v104 v105 v106 v107 v108 v109 v110 v111 v112 v113 v114 v115 v116 v117 v118 v119 v120 v121 v122 v123 v124 v125 v126 v127 v128 v129 v130 v131 v132 v133 v134 v135 v136 v137 v138 v139 v140 v141 v142 v143 v144 v145 v146 v147 v148 v149 v150 v151 v152 v153 v154 v155 v156 v157 v158 v159 v160 v161 v162 v163 v164 v165 v166 v167 v168 v169 v170 v171 v172 v173 v174 v175 v176 v177 v178 v179 v180 v181 v182 v183 v184 v185 v186 v187 v188 v189 v190 v191 v192 v193 A9 n9 c9 xs9 w9 h1 h2 h3 h4
      have HX := Aside0.mk h4
      have HP := Aside0.mk h2
      have HN9 := Aside0.mk (And.intro h1 h3)
      clear h1 h2 h3 h4
      go_wp2
      go_meet
      case rel => exact ⟨_, _, xs9, by rw [HN9.out.1], ⟨by have := HM.out; have := HN9.out.2; omega, HN9.out.1 ▸ HX.out, by rw [← HP.out, ← HST.out]; exact HS.out.2⟩⟩
  · skip
    have hme : m = (ks.take 8).length := by omega
    have HRS : Aside0 (xs = res) := ⟨by have h := HS.out.2; rw [hme, List.drop_length] at h; exact h⟩
    have hx8 : xs.length ≤ 8 := by rw [List.length_take] at hme; omega
    rw [List.length_take] at hme
    have h8 : ks.length ≤ m ∨ (m < ks.length ∧ 8 ≤ m) := by omega
    clear hme hlt hm hx
    obtain ⟨wS, hwS⟩ : ∃ x, wr = x := ⟨_, rfl⟩
    rw [hwS]
    have HQ : Aside0 (PatAt w1 wS okA (.slice B xs.length d) xs) := ⟨hwS ▸ HS.out.1⟩
    clear hwS HS
    have HZ8 := Aside0.mk (blk_below HK8.out HQ.out.b)
    go_upto_region 3 with (fail)
    go_cut [23] (fun vv w' => vv = .bool false ∧ w' = wS)
    case first =>
     rcases h8 with h8 | h8
     · skip
       have e1 : decide (m < ks.length) = false := decide_eq_false (by omega)
       go_wp2
       go_meet
       case rel => exact ⟨rfl, rfl⟩
     · skip
       have e1 : decide (m < ks.length) = true := decide_eq_true (by omega)
       have e2 : decide ((m : Int) < 8) = false := decide_eq_false (by omega)
       go_wp2
       go_meet
       case rel => exact ⟨rfl, rfl⟩
    obtain ⟨rfl, hcw⟩ := hcut
    rw [hcw]
    clear hcw h8
    go_upto_region 23 with (fail)
    rcases Nat.eq_zero_or_pos xs.length with hx0 | hx0
    · skip
      have l0 : ((xs.length : Int) == 0) = true := beq_iff_eq.2 (by omega)
      have HX0 := Aside0.mk hx0
      clear hx0
      have y0 : World.cell? wS ⟨W.heap.size, 0, none⟩ = some (.int .i64 0) := (blk_cell HZ8.out 0).trans rfl
      have z0 := blk_frozen HZ8.out 0
      have y1 : World.cell? wS ⟨W.heap.size, 1, none⟩ = some (.slice none 0 0) := (blk_cell HZ8.out 1).trans rfl
      have z1 := blk_frozen HZ8.out 1
      have y2 : World.cell? wS ⟨W.heap.size, 2, none⟩ = some (.slice none 0 0) := (blk_cell HZ8.out 2).trans rfl
      have z2 := blk_frozen HZ8.out 2
      have y3 : World.cell? wS ⟨W.heap.size, 3, none⟩ = some (.slice none 0 0) := (blk_cell HZ8.out 3).trans rfl
      have z3 := blk_frozen HZ8.out 3
      go_wp2
      refine bodyPost_ret (results_cell_row rfl _ _ W.heap.size 37 #[.int .i64 4, .slice none 0 0, .slice none 0 0, .slice none 0 0] (0, 0) _ rfl (blk_put4 _ _ _ _ _ _ _ _ HZ8.out) Tryd.underlying37 rfl (by as_aux_lemma => kernel_rfl)) rfl ?_
      rw [madeP_nil (HR.out.trans HRS.out.symm) HX0.out]
      exact ⟨_, rfl, k37_mkF _ _ ⟨4, [], [], []⟩ (show 0 ≤ 0 from Nat.le_refl _) (Kd.F_nil _ _ _) (show 0 ≤ 0 from Nat.le_refl _) (Kd.F_nil _ _ _) (show 0 ≤ 0 from Nat.le_refl _) (Kd.F_nil _ _ _), below_put4 (Nat.le_refl _) _ _ _ _ _ _ _ _ (join_below HB0.out HQ.out.b)⟩
    · skip
      have l0 : ((xs.length : Int) == 0) = false := beq_eq_false_iff_ne.2 (by omega)
      obtain ⟨g2, d2, hf, _, hg2, _⟩ := Kd.N_form HQ.out.n (by omega)
      injection hf with hf1 hf2 hf3
      subst hf1 hf3
      obtain ⟨csa, hcla, hFKa, hcca, _⟩ := Kd.N_elem HQ.out.n ptZ ((0 : Nat) : Int) (by omega) (by omega)
      rw [Int.toNat_natCast] at hFKa hcca
      obtain ⟨pa, hpa⟩ : ∃ p, xs.getD 0 ptZ = p := ⟨_, rfl⟩
      rw [hpa] at hFKa
      obtain ⟨P1a, r1a, P2a, r2a, P3a, r3a, rfl, _, _, _, _, _, _⟩ := k37_open (Kd.FK_now hFKa)
      have HEa := Aside0.mk hFKa
      have HCa := Aside0.mk hcca
      have HPA := Aside0.mk hpa
      have HX0 := Aside0.mk hx0
      have hxi : (0 : Int) < (xs.length : Int) := by omega
      have y0 : wS.cell? ⟨g2, 0, none⟩ = some (.int .i64 pa.f0) := HCa.out 0 _ rfl
      have y1 : wS.cell? ⟨g2, 1, none⟩ = some (.slice P1a pa.f1.length r1a) := HCa.out 1 _ rfl
      have y2 : wS.cell? ⟨g2, 2, none⟩ = some (.slice P2a pa.f2.length r2a) := HCa.out 2 _ rfl
      have y3 : wS.cell? ⟨g2, 3, none⟩ = some (.slice P3a pa.f3.length r3a) := HCa.out 3 _ rfl
      clear hcca hcla hFKa hpa hg2 hx0
      go_upto_region 26 with (fail)
      clear y0 y1 y2 y3 hxi l0
      have HC0 : Aside0 (SeqAt wS (wS.alloc (.cells #[.int .i64 pa.f0, .slice P1a pa.f1.length r1a, .slice P2a pa.f2.length r2a, .slice P3a pa.f3.length r3a] 37)) wS.heap.size (fun q => (okA q ∨ w1.heap.size ≤ q) ∧ q ≠ wS.heap.size) pa) := ⟨⟨⟨_, blk_new _ _, Kd.FK_mono (Kd.FK_below (Kd.FK_bound HEa.out) (below1 _ _)) (fun q hq => ⟨hq.1.1, by have := hq.2; omega⟩)⟩, below1 _ _⟩⟩
      obtain ⟨wC, hwC⟩ : ∃ x, wS.alloc (.cells #[.int .i64 pa.f0, .slice P1a pa.f1.length r1a, .slice P2a pa.f2.length r2a, .slice P3a pa.f3.length r3a] 37) = x := ⟨_, rfl⟩
      rw [hwC] at HC0 ⊢
      clear hwC HEa HCa
      obtain ⟨gC, hgC⟩ : ∃ x, wS.heap.size = x := ⟨_, rfl⟩
      rw [hgC] at HC0 ⊢
      have HGC := Aside0.mk hgC
      clear hgC
      go_wp2
      go_loopw [15] (fun i w => ∃ (n : Nat) (q : Pt), i = .int .i64 ((n : Int) + 1) ∧ n + 1 ≤ xs.length ∧ Aside0 (SeqAt wS w gC (fun q => (okA q ∨ w1.heap.size ≤ q) ∧ q ≠ gC) q ∧ patSeq q (xs.drop (n + 1)) = patSeq pa (xs.drop 1))) (fun i _ => xs.length - (intOf i).toNat)
      case atStart => exact ⟨0, pa, rfl, HX0.out, ⟨⟨HC0.out, rfl⟩⟩⟩
      case round =>
       obtain ⟨n, pq, rfl, hn, HS2⟩ := hrel
       obtain ⟨w2, hw2⟩ : ∃ x, wr = x := ⟨_, rfl⟩
       rw [hw2] at HS2 ⊢
       clear hw2
       obtain ⟨csq, hbq, hFKq⟩ := HS2.out.1.h
       obtain ⟨P1q, r1q, P2q, r2q, P3q, r3q, rfl, _, _, _, _, _, _⟩ := k37_open (Kd.FK_now hFKq)
       have HEq := Aside0.mk hFKq
       have HBq := Aside0.mk hbq
       clear hbq hFKq
       by_cases hlt : n + 1 < xs.length
       · skip
         have e1 : decide ((n : Int) + 1 < (xs.length : Int)) = true := decide_eq_true (by omega)
         have HPS := Aside0.mk ((patSeq_step pq hlt).symm.trans HS2.out.2)
         have HLT := Aside0.mk (And.intro hlt hx8)
         clear hlt hn hx8
         go_upto_region 29 with (fail)
         clear e1
         refine pat_reg29 (k := 0) (ins := ins) (calls := calls) (rets := rets) (A1 := A1) (A2 := A2) (A3 := A3) (c1 := c1) (c2 := c2) (c3 := c3) (d := d) (okA := okA) HA.out HB0.out HQ.out HS2.out.1 HGC.out HLT.out.1 HLT.out.2 (fun _ a a' _ hd h => by obtain ⟨_, _⟩ := a; obtain ⟨_, _⟩ := a'; cases hd; exact h) ?_
         intro v207 v208 v209 v210 v211 v212 v213 w9 hx9
         have HX := Aside0.mk hx9
         clear hx9
         have hn8 : (n : Int) ≤ 8 := by have := HLT.out; omega
         go_wp2
         go_roundw
         case rel => exact ⟨n + 1, ⟨5, [], [], [pq, xs.getD (n + 1) ptZ]⟩, by go_num, by have := HLT.out; omega, ⟨⟨HX.out, HPS.out⟩⟩⟩
         case measure => have := HLT.out; simp [intOf]; omega
       · skip
         have e1 : decide ((n : Int) + 1 < (xs.length : Int)) = false := decide_eq_false (by omega)
         have HPE : Aside0 (patSeq pa (xs.drop 1) = pq) := ⟨HS2.out.2.symm.trans (patSeq_end pq (by omega))⟩
         have HZW := Aside0.mk (blk_below HZ8.out HS2.out.1.b)
         clear hlt hn
         have y0 : World.cell? w2 ⟨gC, 0, none⟩ = some (.int .i64 pq.f0) := (blk_cell HBq.out 0).trans rfl
         have x0 : World.cell? w2 ⟨W.heap.size, 0, none⟩ = some (.int .i64 0) := (blk_cell HZW.out 0).trans rfl
         have z0 := blk_frozen HZW.out 0
         have y1 : World.cell? w2 ⟨gC, 1, none⟩ = some (.slice P1q pq.f1.length r1q) := (blk_cell HBq.out 1).trans rfl
         have x1 : World.cell? w2 ⟨W.heap.size, 1, none⟩ = some (.slice none 0 0) := (blk_cell HZW.out 1).trans rfl
         have z1 := blk_frozen HZW.out 1
         have y2 : World.cell? w2 ⟨gC, 2, none⟩ = some (.slice P2q pq.f2.length r2q) := (blk_cell HBq.out 2).trans rfl
         have x2 : World.cell? w2 ⟨W.heap.size, 2, none⟩ = some (.slice none 0 0) := (blk_cell HZW.out 2).trans rfl
         have z2 := blk_frozen HZW.out 2
         have y3 : World.cell? w2 ⟨gC, 3, none⟩ = some (.slice P3q pq.f3.length r3q) := (blk_cell HBq.out 3).trans rfl
         have x3 : World.cell? w2 ⟨W.heap.size, 3, none⟩ = some (.slice none 0 0) := (blk_cell HZW.out 3).trans rfl
         have z3 := blk_frozen HZW.out 3
         go_wp2
         refine bodyPost_ret (results_cell_row rfl _ _ W.heap.size 37 #[.int .i64 pq.f0, .slice P1q pq.f1.length r1q, .slice P2q pq.f2.length r2q, .slice P3q pq.f3.length r3q] (0, 0) _ rfl (blk_put4 _ _ _ _ _ _ _ _ HZW.out) Tryd.underlying37 rfl (by as_aux_lemma => kernel_rfl)) rfl ?_
         rw [madeP_cons (HR.out.trans HRS.out.symm) HX0.out, HPA.out, HPE.out]
         exact ⟨_, rfl, Kd.FK_mono (fk_put4 _ _ _ _ _ _ _ _ HEq.out (fun q hq => by have h1 := blk_lt HK8.out; have h2 := HA.out q; rcases hq.1 with h | h; (· have := h2 h; omega); (· omega))) (fun q hq => by have h1 := HB0.out.size; rcases hq.1 with h | h; (· exact Or.inl h); (· exact Or.inr (by omega))), below_put4 (Nat.le_refl _) _ _ _ _ _ _ _ _ (join_below (join_below HB0.out HQ.out.b) HS2.out.1.b)⟩
end Go.Proofs.YthdfmbmbjpmlaaaDoor.Rn
end
section
set_option linter.unusedVariables false
set_option linter.unusedSimpArgs false
namespace Go.Proofs.YthdfmbmbjpmlaaaDoor.Rn
open Go Go.RowKit Go.Proofs.YthdfmbmbjpmlaaaDoorW.PrintWords Go.Proofs.YthdfmbmbjpmlaaaDoorW.PrintLast Go.Proofs.YthdfmbmbjpmlaaaDoorW.PrintMore
set_option maxHeartbeats 200000000 in
set_option maxRecDepth 100000 in
theorem make_gen (ls : List (List Int)) (A : Option Addr) (c : Nat) (okA : Nat → Prop) (W : World) (hA : ∀ q, okA q → q < W.heap.size) (hL : Kd.F (Kd.slice 3 (Kd.int .i64)) W okA A ls.length ls) (hsm : ∀ l, l ∈ ls → l.length ≤ 1048576) :
 Calls Tryd.prog 6 #[.slice A ls.length c] W (fun e W' => ∃ v1 v2, e = .returned (.agg #[v1, v2]) ∧ Kd.N kTok 50 W' W.heap.size (fun k => W.heap.size ≤ k) v1 (madeTs ls.length) ∧ Kd.N kRul 32 W' W.heap.size (fun k => W.heap.size ≤ k) v2 (madeRs ls) ∧ Below W.heap.size W W') := by
 have HA := Aside0.mk hA
 have HL := Aside0.mk hL
 have HSM := Aside0.mk hsm
 have hl : ls.length ≤ 9223372036854775807 := (Kd.F_now hL).2.1
 clear hA hL hsm
 go_enter Tryd.func6, Tryd.ntmps6
 go_wp2_with fail
 refine (one_any 99 _).mono ?_
 rintro e w1 ⟨a1, c1, A2, c2, X1, rfl, hl1, hC1, hX1, hC2, n1, n2, hb⟩
 have N1 : Aside0 (W.heap.size < a1) := ⟨by simp at n1; omega⟩
 clear n1 n2
 have HB1 := Aside0.mk (join_below (below1 W _) hb)
 have HBLK := Aside0.mk ((hb.block W.heap.size (by simp)).trans (blk_new W _))
 have H1 := Aside0.mk (And.intro hl1 (And.intro hC1 (And.intro hX1 hC2)))
 clear hl1 hC1 hC2 hX1 hb
 go_wp2_with fail
 refine (one_any 100 _).mono ?_
 rintro e w2 ⟨b1, d1, B2, d2, Y1, rfl, hl1, hC1, hX1, hC2, n1, n2, hb⟩
 have N2 : Aside0 (W.heap.size < b1) := ⟨by have := blk_lt HBLK.out; omega⟩
 clear n1 n2
 have HB2 := Aside0.mk (join_below HB1.out hb)
 have HB12 := Aside0.mk hb
 have H2 := Aside0.mk (And.intro hl1 (And.intro hC1 (And.intro hX1 hC2)))
 clear hl1 hC1 hC2 hX1 hb
 go_wp2
 obtain ⟨w3, hw3⟩ : ∃ x, (w2.alloc (Obj.cells #[.int .i64 2, .slice (some ⟨a1, 0, none⟩) 1 c1, .slice A2 0 c2] 48)).alloc (Obj.cells #[.int .i64 2, .slice (some ⟨b1, 0, none⟩) 1 d1, .slice B2 0 d2] 48) = x := ⟨_, rfl⟩
 have hnb : w3.heap[w2.heap.size + 1]? = some (.cells #[.int .i64 2, .slice (some ⟨b1, 0, none⟩) 1 d1, .slice B2 0 d2] 48 (0, 0)) := by
  rw [← hw3]
  exact second w2 _ _ _
 have hna : w3.heap[w2.heap.size]? = some (.cells #[.int .i64 2, .slice (some ⟨a1, 0, none⟩) 1 c1, .slice A2 0 c2] 48 (0, 0)) := by
  rw [← hw3]
  exact blk_alloc (blk_new _ _) _
 have HB3 : Aside0 (Below w2.heap.size w2 w3) := ⟨hw3 ▸ below_alloc (below1 _ _) _⟩
 have q0 : ∀ p : Later w3, p.wx.cell? ⟨w2.heap.size, 0, none⟩ = some (.int .i64 2) := fun p => cell_after p.below ((blk_cell hna 0).trans rfl)
 have q1 : ∀ p : Later w3, p.wx.cell? ⟨w2.heap.size, 1, none⟩ = some (.slice (some ⟨a1, 0, none⟩) 1 c1) := fun p => cell_after p.below ((blk_cell hna 1).trans rfl)
 have q2 : ∀ p : Later w3, p.wx.cell? ⟨w2.heap.size, 2, none⟩ = some (.slice A2 0 c2) := fun p => cell_after p.below ((blk_cell hna 2).trans rfl)
 have r0 : ∀ p : Later w3, p.wx.cell? ⟨w2.heap.size + 1, 0, none⟩ = some (.int .i64 2) := fun p => cell_after p.below ((blk_cell hnb 0).trans rfl)
 have r1 : ∀ p : Later w3, p.wx.cell? ⟨w2.heap.size + 1, 1, none⟩ = some (.slice (some ⟨b1, 0, none⟩) 1 d1) := fun p => cell_after p.below ((blk_cell hnb 1).trans rfl)
 have r2 : ∀ p : Later w3, p.wx.cell? ⟨w2.heap.size + 1, 2, none⟩ = some (.slice B2 0 d2) := fun p => cell_after p.below ((blk_cell hnb 2).trans rfl)
 have HW3 : Aside0 (W.heap.size < w3.heap.size) := ⟨blk_lt (blk_below (blk_below HBLK.out HB12.out) HB3.out)⟩
 rw [hw3]
 clear hw3 hna hnb
 have HQR := Aside0.mk (And.intro q0 (And.intro q1 (And.intro q2 (And.intro r0 (And.intro r1 r2)))))
 go_cut [5] (fun v w' => ∃ gG, v = .pointer (some ⟨gG, 0, none⟩) ∧ Aside0 (MadeG W w3 gG w'))
 case first =>
  have hund : undef = Value.tuple #[] := rfl
  obtain ⟨wd, hwd⟩ : ∃ x, w3.drew = x := ⟨_, rfl⟩
  have HLAT : Aside0 (Below w3.heap.size w3 wd) := ⟨hwd ▸ below_drew1 (Below.refl _ _)⟩
  refine wp_region_held (S := fun w' => ∃ p : Later w3, w' = p.wx) (by as_aux_lemma => kernel_rfl) ?_
  change wpAnyH _ _ _ _ _ _ _ _ (World.drew _)
  rw [hwd]
  clear hwd
  ((refine takeQ (i := 2) (by rfl) (by as_aux_lemma => kernel_rfl) (by as_aux_lemma => kernel_rfl) (by as_aux_lemma => kernel_rfl) ?_ ?_ ?_); (focus exact fun _ _ _ _ h => h); (focus exact ⟨⟨_, HLAT.out⟩, rfl⟩); intro K hK; go_simp; (with_reducible refine hK _ ?_); clear hK K)
  ((refine takeQ (i := 3) (by rfl) (by as_aux_lemma => kernel_rfl) (by as_aux_lemma => kernel_rfl) (by as_aux_lemma => kernel_rfl) ?_ ?_ ?_); (focus exact fun _ _ _ _ h => h); (focus exact ⟨⟨_, HLAT.out⟩, rfl⟩); intro K hK; go_simp; (with_reducible refine hK _ ?_); clear hK K)
  ((refine takeQ (i := 7) (by rfl) (by as_aux_lemma => kernel_rfl) (by as_aux_lemma => kernel_rfl) (by as_aux_lemma => kernel_rfl) ?_ ?_ ?_); (focus exact fun _ _ _ _ h => h); (focus exact ⟨⟨_, HLAT.out⟩, rfl⟩); intro K hK; go_simp; (with_reducible refine hK _ ?_); clear hK K)
  ((refine takeQ (i := 8) (by rfl) (by as_aux_lemma => kernel_rfl) (by as_aux_lemma => kernel_rfl) (by as_aux_lemma => kernel_rfl) ?_ ?_ ?_); (focus exact fun _ _ _ _ h => h); (focus exact ⟨⟨_, HLAT.out⟩, rfl⟩); intro K hK; go_simp; (with_reducible refine hK _ ?_); clear hK K)
  ((refine takeQ (i := 9) (by rfl) (by as_aux_lemma => kernel_rfl) (by as_aux_lemma => kernel_rfl) (by as_aux_lemma => kernel_rfl) ?_ ?_ ?_); (focus exact fun _ _ _ _ h => h); (focus exact ⟨⟨_, HLAT.out⟩, rfl⟩); intro K hK; go_simp; (with_reducible refine hK _ ?_); clear hK K)
  ((refine takeQ (i := 10) (by rfl) (by as_aux_lemma => kernel_rfl) (by as_aux_lemma => kernel_rfl) (by as_aux_lemma => kernel_rfl) ?_ ?_ ?_); (focus exact fun _ _ _ _ h => h); (focus exact ⟨⟨_, HLAT.out⟩, rfl⟩); intro K hK; go_simp; (with_reducible refine hK _ ?_); clear hK K)
  clear q0 q1 q2 r0 r1 r2
  refine hall3 (i := 0) (j := 4) (k := 13) (by as_aux_lemma => kernel_rfl) (by rfl) (by rfl) (by rfl) (fun K hK => ?_) (fun K hK => ?_) (fun K hK => ?_)
  · go_simp
    refine (one_any 97 _).mono ?_
    rintro e v1 ⟨a0, c0, E0, e0, X0, rfl, f1, f2, fX, f3, f4, f5, hb⟩
    have G0 := Aside0.mk f5
    have GW : Aside0 (W.heap.size < a0) := ⟨by have h1 := HW3.out; have h2 := HLAT.out.size; omega⟩
    have ST := Aside0.mk hb
    have HV1 : Aside0 (Below w3.heap.size w3 v1) := ⟨join_below HLAT.out hb⟩
    have F0 := Aside0.mk (And.intro f2 (And.intro fX (And.intro f3 f1)))
    clear f1 f2 f3 f4 f5 fX hb
    refine hK _ _ ⟨⟨_, HV1.out⟩, rfl⟩ ?_
    clear hK K ST
    ((refine takeQ (i := 1) (by rfl) (by as_aux_lemma => kernel_rfl) (by as_aux_lemma => kernel_rfl) (by as_aux_lemma => kernel_rfl) ?_ ?_ ?_); (focus exact fun _ _ _ _ h => h); (focus exact ⟨⟨_, HV1.out⟩, rfl⟩); intro K hK; go_simp; (with_reducible refine hK _ ?_); clear hK K)
    refine hall2 (i := 4) (j := 13) (by as_aux_lemma => kernel_rfl) (by rfl) (by rfl) (fun K hK => ?_) (fun K hK => ?_)
    · go_simp
      obtain ⟨v2, hv⟩ : ∃ x, v1.alloc (Obj.cells #[.int .i32 10, .int .i32 10, .int .i32 98, .int .i32 98] 56) = x := ⟨_, rfl⟩
      rw [hv]
      obtain ⟨g4, hg⟩ : ∃ x, v1.heap.size = x := ⟨_, rfl⟩
      rw [hg]
      have F4 : Aside0 (v2.heap[g4]? = some (.cells #[.int .i32 10, .int .i32 10, .int .i32 98, .int .i32 98] 56 (0, 0))) := ⟨by rw [← hv, ← hg]; exact blk_new _ _⟩
      have GW4 : Aside0 (W.heap.size < g4) := ⟨by have h1 := HW3.out; have h2 := HV1.out.size; omega⟩
      have ST : Aside0 (Below v1.heap.size v1 v2) := ⟨hv ▸ below1 _ _⟩
      have HV2 : Aside0 (Below w3.heap.size w3 v2) := ⟨join_below HV1.out ST.out⟩
      clear hv hg
      have G0 := Aside0.mk (Nat.lt_of_lt_of_le G0.out ST.out.size)
      have F0 := Aside0.mk (And.intro (Kd.F_below F0.out.1 ST.out) (And.intro (blk_below F0.out.2.1 ST.out) F0.out.2.2))
      refine hK _ _ ⟨⟨_, HV2.out⟩, rfl⟩ ?_
      clear hK K ST
      ((refine takeQ (i := 5) (by rfl) (by as_aux_lemma => kernel_rfl) (by as_aux_lemma => kernel_rfl) (by as_aux_lemma => kernel_rfl) ?_ ?_ ?_); (focus exact fun _ _ _ _ h => h); (focus exact ⟨⟨_, HV2.out⟩, rfl⟩); intro K hK; go_simp; (with_reducible refine hK _ ?_); clear hK K)
      ((refine takeQ (i := 6) (by rfl) (by as_aux_lemma => kernel_rfl) (by as_aux_lemma => kernel_rfl) (by as_aux_lemma => kernel_rfl) ?_ ?_ ?_); (focus exact fun _ _ _ _ h => h); (focus exact ⟨⟨_, HV2.out⟩, rfl⟩); intro K hK; go_simp; (with_reducible refine hK _ ?_); clear hK K)
      refine hall2 (i := 11) (j := 13) (by as_aux_lemma => kernel_rfl) (by rfl) (by rfl) (fun K hK => ?_) (fun K hK => ?_)
      · go_simp
        obtain ⟨v3, hv⟩ : ∃ x, v2.alloc (Obj.cells #[.string ⟨#[97]⟩, .int .i64 0, .int .i64 1, .int .i64 2, .slice (some ⟨a0, 0, none⟩) 1 c0, .slice E0 0 e0, .string ⟨#[98]⟩, .int .i64 0, .int .i64 2, .int .i64 2, .slice (some ⟨g4, 0, none⟩) 2 2, .slice none 0 0, .string ⟨#[111]⟩, .int .i64 1, .int .i64 3, .int .i64 2, .slice (some ⟨a1, 0, none⟩) 1 c1, .slice A2 0 c2, .string ⟨#[99]⟩, .int .i64 2, .int .i64 4, .int .i64 2, .slice (some ⟨b1, 0, none⟩) 1 d1, .slice B2 0 d2] 50) = x := ⟨_, rfl⟩
        rw [hv]
        obtain ⟨gR, hg⟩ : ∃ x, v2.heap.size = x := ⟨_, rfl⟩
        rw [hg]
        have F11 : Aside0 (v3.heap[gR]? = some (.cells #[.string ⟨#[97]⟩, .int .i64 0, .int .i64 1, .int .i64 2, .slice (some ⟨a0, 0, none⟩) 1 c0, .slice E0 0 e0, .string ⟨#[98]⟩, .int .i64 0, .int .i64 2, .int .i64 2, .slice (some ⟨g4, 0, none⟩) 2 2, .slice none 0 0, .string ⟨#[111]⟩, .int .i64 1, .int .i64 3, .int .i64 2, .slice (some ⟨a1, 0, none⟩) 1 c1, .slice A2 0 c2, .string ⟨#[99]⟩, .int .i64 2, .int .i64 4, .int .i64 2, .slice (some ⟨b1, 0, none⟩) 1 d1, .slice B2 0 d2] 50 (0, 0))) := ⟨by rw [← hv, ← hg]; exact blk_new _ _⟩
        have GW11 : Aside0 (W.heap.size < gR) := ⟨by have h1 := HW3.out; have h2 := HV2.out.size; omega⟩
        have ST : Aside0 (Below v2.heap.size v2 v3) := ⟨hv ▸ below1 _ _⟩
        have HV3 : Aside0 (Below w3.heap.size w3 v3) := ⟨join_below HV2.out ST.out⟩
        clear hv hg
        have G0 := Aside0.mk (Nat.lt_of_lt_of_le G0.out ST.out.size)
        have F0 := Aside0.mk (And.intro (Kd.F_below F0.out.1 ST.out) (And.intro (blk_below F0.out.2.1 ST.out) F0.out.2.2))
        have F4 := Aside0.mk (blk_below F4.out ST.out)
        refine hK _ _ ⟨⟨_, HV3.out⟩, rfl⟩ ?_
        clear hK K ST
        ((refine takeQ (i := 12) (by rfl) (by as_aux_lemma => kernel_rfl) (by as_aux_lemma => kernel_rfl) (by as_aux_lemma => kernel_rfl) ?_ ?_ ?_); (focus exact fun _ _ _ _ h => h); (focus exact ⟨⟨_, HV3.out⟩, rfl⟩); intro K hK; go_simp; (with_reducible refine hK _ ?_); clear hK K)
        refine hall1 (i := 13) (by as_aux_lemma => kernel_rfl) (by rfl) (fun K hK => ?_)
        go_simp
        obtain ⟨v4, hv⟩ : ∃ x, v3.alloc (Obj.cells #[.slice none 0 0, .slice none 0 0] 26) = x := ⟨_, rfl⟩
        rw [hv]
        obtain ⟨g13, hg⟩ : ∃ x, v3.heap.size = x := ⟨_, rfl⟩
        rw [hg]
        have F13 : Aside0 (v4.heap[g13]? = some (.cells #[.slice none 0 0, .slice none 0 0] 26 (0, 0))) := ⟨by rw [← hv, ← hg]; exact blk_new _ _⟩
        have GW13 : Aside0 (W.heap.size < g13) := ⟨by have h1 := HW3.out; have h2 := HV3.out.size; omega⟩
        have ST : Aside0 (Below v3.heap.size v3 v4) := ⟨hv ▸ below1 _ _⟩
        have HV4 : Aside0 (Below w3.heap.size w3 v4) := ⟨join_below HV3.out ST.out⟩
        have FN : Aside0 (a0 ≠ g13) := ⟨by have := G0.out; omega⟩
        have HGE : Aside0 (w3.heap.size ≤ g13) := ⟨hg ▸ HV3.out.size⟩
        clear hv hg
        have G0 := Aside0.mk (Nat.lt_of_lt_of_le G0.out ST.out.size)
        have F0 := Aside0.mk (And.intro (Kd.F_below F0.out.1 ST.out) (And.intro (blk_below F0.out.2.1 ST.out) F0.out.2.2))
        have F4 := Aside0.mk (blk_below F4.out ST.out)
        have F11 := Aside0.mk (blk_below F11.out ST.out)
        refine hK _ _ ⟨⟨_, HV4.out⟩, rfl⟩ ?_
        clear hK K ST
        have ne4 : g4 ≠ g13 := fun e => by have h := F4.out; rw [e, F13.out] at h; simp at h
        have neR : gR ≠ g13 := fun e => by have h := F11.out; rw [e, F13.out] at h; simp at h
        have y0 : World.cell? v4 ⟨g13, 0, none⟩ = some (.slice none 0 0) := (blk_cell F13.out 0).trans rfl
        have y1 : World.cell? v4 ⟨g13, 1, none⟩ = some (.slice none 0 0) := (blk_cell F13.out 1).trans rfl
        have z0 := blk_frozen F13.out 0
        have z1 := blk_frozen F13.out 1
        have hp1 := blk_put F13.out 0 (.slice (some ⟨gR, 0, none⟩) 4 4) rfl
        have y2 : (World.setCell v4 ⟨g13, 0, none⟩ (.slice (some ⟨gR, 0, none⟩) 4 4)).cell? ⟨g13, 1, none⟩ = some (.slice none 0 0) := (blk_cell hp1 1).trans rfl
        have z2 := blk_frozen hp1 1
        have hp2 := blk_put hp1 1 (.slice none 0 0) rfl
        obtain ⟨uf, huf⟩ : ∃ x, (World.setCell v4 ⟨g13, 0, none⟩ (.slice (some ⟨gR, 0, none⟩) 4 4)).setCell ⟨g13, 1, none⟩ (.slice none 0 0) = x := ⟨_, rfl⟩
        have HBF : Aside0 (Below w3.heap.size w3 uf) := ⟨huf ▸ (HV4.out.setCell HGE.out _).setCell HGE.out _⟩
        have f11 := blk_far (p := ⟨g13, 1, none⟩) (blk_far (p := ⟨g13, 0, none⟩) F11.out neR (.slice (some ⟨gR, 0, none⟩) 4 4)) neR (.slice none 0 0)
        have f4 := blk_far (p := ⟨g13, 1, none⟩) (blk_far (p := ⟨g13, 0, none⟩) F4.out ne4 (.slice (some ⟨gR, 0, none⟩) 4 4)) ne4 (.slice none 0 0)
        have f0 := Kd.F_far (p := ⟨g13, 1, none⟩) (Kd.F_far (p := ⟨g13, 0, none⟩) F0.out.1 (fun k hk => by rw [hk]; exact FN.out) (.slice (some ⟨gR, 0, none⟩) 4 4)) (fun k hk => by rw [hk]; exact FN.out) (.slice none 0 0)
        have fx := blk_far (p := ⟨g13, 1, none⟩) (blk_far (p := ⟨g13, 0, none⟩) F0.out.2.1 FN.out (.slice (some ⟨gR, 0, none⟩) 4 4)) FN.out (.slice none 0 0)
        rw [huf] at hp2 f11 f4 f0 fx
        have HF := Aside0.mk hp2
        have HX := Aside0.mk (And.intro f11 (And.intro f4 (And.intro f0 (And.intro fx F0.out.2.2))))
        have NE := Aside0.mk (And.intro neR ne4)
        clear hp2 f11 f4 f0 fx ne4 neR hp1
        refine hall1 (i := 14) (by as_aux_lemma => kernel_rfl) (by rfl) (fun K hK => ?_)
        go_simp
        clear huf y0 y1 y2 z0 z1 z2 F0 F4 F11 F13
        refine hK _ _ ⟨⟨_, HBF.out⟩, rfl⟩ ?_
        clear hK K
        refine wpAnyH_done (by as_aux_lemma => kernel_rfl) ?_ _
        go_wp2
        go_meet
        case rel =>
         have hx := HX.out
         have BB := join_below HB3.out HBF.out
         have c4 := blk_below (blk_below H1.out.2.2.1 HB12.out) BB
         have c5 := blk_below H2.out.2.2.1 BB
         have l1 := blk_lt (blk_below (blk_below H1.out.2.2.1 HB12.out) HB3.out)
         have l2 := blk_lt (blk_below H2.out.2.2.1 HB3.out)
         have lg := HGE.out
         exact ⟨g13, rfl, ⟨⟨⟨gR, HF.out, made_rowP hx.1 (range_new hx.2.1) hx.2.2.2.2.2 hx.2.2.1 (fun _ => re_none hx.2.2.2.2.1) H1.out.1 (Kd.F_below (Kd.F_below H1.out.2.1 HB12.out) BB) (fun _ => re_none H1.out.2.2.2) H2.out.1 (Kd.F_below H2.out.2.1 BB) (fun _ => re_none H2.out.2.2.2) (Nat.le_of_lt GW11.out) ⟨GW11.out, NE.out.1⟩ ⟨⟨GW.out, FN.out⟩, ne_type hx.2.2.2.1 hx.1 (by decide)⟩ ⟨⟨N1.out, by omega⟩, ne_type c4 hx.1 (by decide)⟩ ⟨⟨N2.out, by omega⟩, ne_type c5 hx.1 (by decide)⟩ ⟨⟨GW4.out, NE.out.2⟩, ne_type hx.2.1 hx.1 (by decide)⟩⟩, HGE.out, HBF.out⟩⟩⟩
      · go_simp
        obtain ⟨v3, hv⟩ : ∃ x, v2.alloc (Obj.cells #[.slice none 0 0, .slice none 0 0] 26) = x := ⟨_, rfl⟩
        rw [hv]
        obtain ⟨g13, hg⟩ : ∃ x, v2.heap.size = x := ⟨_, rfl⟩
        rw [hg]
        have F13 : Aside0 (v3.heap[g13]? = some (.cells #[.slice none 0 0, .slice none 0 0] 26 (0, 0))) := ⟨by rw [← hv, ← hg]; exact blk_new _ _⟩
        have GW13 : Aside0 (W.heap.size < g13) := ⟨by have h1 := HW3.out; have h2 := HV2.out.size; omega⟩
        have ST : Aside0 (Below v2.heap.size v2 v3) := ⟨hv ▸ below1 _ _⟩
        have HV3 : Aside0 (Below w3.heap.size w3 v3) := ⟨join_below HV2.out ST.out⟩
        have FN : Aside0 (a0 ≠ g13) := ⟨by have := G0.out; omega⟩
        have HGE : Aside0 (w3.heap.size ≤ g13) := ⟨hg ▸ HV2.out.size⟩
        clear hv hg
        have G0 := Aside0.mk (Nat.lt_of_lt_of_le G0.out ST.out.size)
        have F0 := Aside0.mk (And.intro (Kd.F_below F0.out.1 ST.out) (And.intro (blk_below F0.out.2.1 ST.out) F0.out.2.2))
        have F4 := Aside0.mk (blk_below F4.out ST.out)
        refine hK _ _ ⟨⟨_, HV3.out⟩, rfl⟩ ?_
        clear hK K ST
        refine hall1 (i := 11) (by as_aux_lemma => kernel_rfl) (by rfl) (fun K hK => ?_)
        go_simp
        obtain ⟨v4, hv⟩ : ∃ x, v3.alloc (Obj.cells #[.string ⟨#[97]⟩, .int .i64 0, .int .i64 1, .int .i64 2, .slice (some ⟨a0, 0, none⟩) 1 c0, .slice E0 0 e0, .string ⟨#[98]⟩, .int .i64 0, .int .i64 2, .int .i64 2, .slice (some ⟨g4, 0, none⟩) 2 2, .slice none 0 0, .string ⟨#[111]⟩, .int .i64 1, .int .i64 3, .int .i64 2, .slice (some ⟨a1, 0, none⟩) 1 c1, .slice A2 0 c2, .string ⟨#[99]⟩, .int .i64 2, .int .i64 4, .int .i64 2, .slice (some ⟨b1, 0, none⟩) 1 d1, .slice B2 0 d2] 50) = x := ⟨_, rfl⟩
        rw [hv]
        obtain ⟨gR, hg⟩ : ∃ x, v3.heap.size = x := ⟨_, rfl⟩
        rw [hg]
        have F11 : Aside0 (v4.heap[gR]? = some (.cells #[.string ⟨#[97]⟩, .int .i64 0, .int .i64 1, .int .i64 2, .slice (some ⟨a0, 0, none⟩) 1 c0, .slice E0 0 e0, .string ⟨#[98]⟩, .int .i64 0, .int .i64 2, .int .i64 2, .slice (some ⟨g4, 0, none⟩) 2 2, .slice none 0 0, .string ⟨#[111]⟩, .int .i64 1, .int .i64 3, .int .i64 2, .slice (some ⟨a1, 0, none⟩) 1 c1, .slice A2 0 c2, .string ⟨#[99]⟩, .int .i64 2, .int .i64 4, .int .i64 2, .slice (some ⟨b1, 0, none⟩) 1 d1, .slice B2 0 d2] 50 (0, 0))) := ⟨by rw [← hv, ← hg]; exact blk_new _ _⟩
        have GW11 : Aside0 (W.heap.size < gR) := ⟨by have h1 := HW3.out; have h2 := HV3.out.size; omega⟩
        have ST : Aside0 (Below v3.heap.size v3 v4) := ⟨hv ▸ below1 _ _⟩
        have HV4 : Aside0 (Below w3.heap.size w3 v4) := ⟨join_below HV3.out ST.out⟩
        clear hv hg
        have G0 := Aside0.mk (Nat.lt_of_lt_of_le G0.out ST.out.size)
        have F0 := Aside0.mk (And.intro (Kd.F_below F0.out.1 ST.out) (And.intro (blk_below F0.out.2.1 ST.out) F0.out.2.2))
        have F4 := Aside0.mk (blk_below F4.out ST.out)
        have F13 := Aside0.mk (blk_below F13.out ST.out)
        refine hK _ _ ⟨⟨_, HV4.out⟩, rfl⟩ ?_
        clear hK K ST
        ((refine takeQ (i := 12) (by rfl) (by as_aux_lemma => kernel_rfl) (by as_aux_lemma => kernel_rfl) (by as_aux_lemma => kernel_rfl) ?_ ?_ ?_); (focus exact fun _ _ _ _ h => h); (focus exact ⟨⟨_, HV4.out⟩, rfl⟩); intro K hK; go_simp; (with_reducible refine hK _ ?_); clear hK K)
        have ne4 : g4 ≠ g13 := fun e => by have h := F4.out; rw [e, F13.out] at h; simp at h
        have neR : gR ≠ g13 := fun e => by have h := F11.out; rw [e, F13.out] at h; simp at h
        have y0 : World.cell? v4 ⟨g13, 0, none⟩ = some (.slice none 0 0) := (blk_cell F13.out 0).trans rfl
        have y1 : World.cell? v4 ⟨g13, 1, none⟩ = some (.slice none 0 0) := (blk_cell F13.out 1).trans rfl
        have z0 := blk_frozen F13.out 0
        have z1 := blk_frozen F13.out 1
        have hp1 := blk_put F13.out 0 (.slice (some ⟨gR, 0, none⟩) 4 4) rfl
        have y2 : (World.setCell v4 ⟨g13, 0, none⟩ (.slice (some ⟨gR, 0, none⟩) 4 4)).cell? ⟨g13, 1, none⟩ = some (.slice none 0 0) := (blk_cell hp1 1).trans rfl
        have z2 := blk_frozen hp1 1
        have hp2 := blk_put hp1 1 (.slice none 0 0) rfl
        obtain ⟨uf, huf⟩ : ∃ x, (World.setCell v4 ⟨g13, 0, none⟩ (.slice (some ⟨gR, 0, none⟩) 4 4)).setCell ⟨g13, 1, none⟩ (.slice none 0 0) = x := ⟨_, rfl⟩
        have HBF : Aside0 (Below w3.heap.size w3 uf) := ⟨huf ▸ (HV4.out.setCell HGE.out _).setCell HGE.out _⟩
        have f11 := blk_far (p := ⟨g13, 1, none⟩) (blk_far (p := ⟨g13, 0, none⟩) F11.out neR (.slice (some ⟨gR, 0, none⟩) 4 4)) neR (.slice none 0 0)
        have f4 := blk_far (p := ⟨g13, 1, none⟩) (blk_far (p := ⟨g13, 0, none⟩) F4.out ne4 (.slice (some ⟨gR, 0, none⟩) 4 4)) ne4 (.slice none 0 0)
        have f0 := Kd.F_far (p := ⟨g13, 1, none⟩) (Kd.F_far (p := ⟨g13, 0, none⟩) F0.out.1 (fun k hk => by rw [hk]; exact FN.out) (.slice (some ⟨gR, 0, none⟩) 4 4)) (fun k hk => by rw [hk]; exact FN.out) (.slice none 0 0)
        have fx := blk_far (p := ⟨g13, 1, none⟩) (blk_far (p := ⟨g13, 0, none⟩) F0.out.2.1 FN.out (.slice (some ⟨gR, 0, none⟩) 4 4)) FN.out (.slice none 0 0)
        rw [huf] at hp2 f11 f4 f0 fx
        have HF := Aside0.mk hp2
        have HX := Aside0.mk (And.intro f11 (And.intro f4 (And.intro f0 (And.intro fx F0.out.2.2))))
        have NE := Aside0.mk (And.intro neR ne4)
        clear hp2 f11 f4 f0 fx ne4 neR hp1
        refine hall1 (i := 14) (by as_aux_lemma => kernel_rfl) (by rfl) (fun K hK => ?_)
        go_simp
        clear huf y0 y1 y2 z0 z1 z2 F0 F4 F11 F13
        refine hK _ _ ⟨⟨_, HBF.out⟩, rfl⟩ ?_
        clear hK K
        refine wpAnyH_done (by as_aux_lemma => kernel_rfl) ?_ _
        go_wp2
        go_meet
        case rel =>
         have hx := HX.out
         have BB := join_below HB3.out HBF.out
         have c4 := blk_below (blk_below H1.out.2.2.1 HB12.out) BB
         have c5 := blk_below H2.out.2.2.1 BB
         have l1 := blk_lt (blk_below (blk_below H1.out.2.2.1 HB12.out) HB3.out)
         have l2 := blk_lt (blk_below H2.out.2.2.1 HB3.out)
         have lg := HGE.out
         exact ⟨g13, rfl, ⟨⟨⟨gR, HF.out, made_rowP hx.1 (range_new hx.2.1) hx.2.2.2.2.2 hx.2.2.1 (fun _ => re_none hx.2.2.2.2.1) H1.out.1 (Kd.F_below (Kd.F_below H1.out.2.1 HB12.out) BB) (fun _ => re_none H1.out.2.2.2) H2.out.1 (Kd.F_below H2.out.2.1 BB) (fun _ => re_none H2.out.2.2.2) (Nat.le_of_lt GW11.out) ⟨GW11.out, NE.out.1⟩ ⟨⟨GW.out, FN.out⟩, ne_type hx.2.2.2.1 hx.1 (by decide)⟩ ⟨⟨N1.out, by omega⟩, ne_type c4 hx.1 (by decide)⟩ ⟨⟨N2.out, by omega⟩, ne_type c5 hx.1 (by decide)⟩ ⟨⟨GW4.out, NE.out.2⟩, ne_type hx.2.1 hx.1 (by decide)⟩⟩, HGE.out, HBF.out⟩⟩⟩
    · go_simp
      obtain ⟨v2, hv⟩ : ∃ x, v1.alloc (Obj.cells #[.slice none 0 0, .slice none 0 0] 26) = x := ⟨_, rfl⟩
      rw [hv]
      obtain ⟨g13, hg⟩ : ∃ x, v1.heap.size = x := ⟨_, rfl⟩
      rw [hg]
      have F13 : Aside0 (v2.heap[g13]? = some (.cells #[.slice none 0 0, .slice none 0 0] 26 (0, 0))) := ⟨by rw [← hv, ← hg]; exact blk_new _ _⟩
      have GW13 : Aside0 (W.heap.size < g13) := ⟨by have h1 := HW3.out; have h2 := HV1.out.size; omega⟩
      have ST : Aside0 (Below v1.heap.size v1 v2) := ⟨hv ▸ below1 _ _⟩
      have HV2 : Aside0 (Below w3.heap.size w3 v2) := ⟨join_below HV1.out ST.out⟩
      have FN : Aside0 (a0 ≠ g13) := ⟨by have := G0.out; omega⟩
      have HGE : Aside0 (w3.heap.size ≤ g13) := ⟨hg ▸ HV1.out.size⟩
      clear hv hg
      have G0 := Aside0.mk (Nat.lt_of_lt_of_le G0.out ST.out.size)
      have F0 := Aside0.mk (And.intro (Kd.F_below F0.out.1 ST.out) (And.intro (blk_below F0.out.2.1 ST.out) F0.out.2.2))
      refine hK _ _ ⟨⟨_, HV2.out⟩, rfl⟩ ?_
      clear hK K ST
      refine hall1 (i := 4) (by as_aux_lemma => kernel_rfl) (by rfl) (fun K hK => ?_)
      go_simp
      obtain ⟨v3, hv⟩ : ∃ x, v2.alloc (Obj.cells #[.int .i32 10, .int .i32 10, .int .i32 98, .int .i32 98] 56) = x := ⟨_, rfl⟩
      rw [hv]
      obtain ⟨g4, hg⟩ : ∃ x, v2.heap.size = x := ⟨_, rfl⟩
      rw [hg]
      have F4 : Aside0 (v3.heap[g4]? = some (.cells #[.int .i32 10, .int .i32 10, .int .i32 98, .int .i32 98] 56 (0, 0))) := ⟨by rw [← hv, ← hg]; exact blk_new _ _⟩
      have GW4 : Aside0 (W.heap.size < g4) := ⟨by have h1 := HW3.out; have h2 := HV2.out.size; omega⟩
      have ST : Aside0 (Below v2.heap.size v2 v3) := ⟨hv ▸ below1 _ _⟩
      have HV3 : Aside0 (Below w3.heap.size w3 v3) := ⟨join_below HV2.out ST.out⟩
      clear hv hg
      have G0 := Aside0.mk (Nat.lt_of_lt_of_le G0.out ST.out.size)
      have F0 := Aside0.mk (And.intro (Kd.F_below F0.out.1 ST.out) (And.intro (blk_below F0.out.2.1 ST.out) F0.out.2.2))
      have F13 := Aside0.mk (blk_below F13.out ST.out)
      refine hK _ _ ⟨⟨_, HV3.out⟩, rfl⟩ ?_
      clear hK K ST
      ((refine takeQ (i := 5) (by rfl) (by as_aux_lemma => kernel_rfl) (by as_aux_lemma => kernel_rfl) (by as_aux_lemma => kernel_rfl) ?_ ?_ ?_); (focus exact fun _ _ _ _ h => h); (focus exact ⟨⟨_, HV3.out⟩, rfl⟩); intro K hK; go_simp; (with_reducible refine hK _ ?_); clear hK K)
      ((refine takeQ (i := 6) (by rfl) (by as_aux_lemma => kernel_rfl) (by as_aux_lemma => kernel_rfl) (by as_aux_lemma => kernel_rfl) ?_ ?_ ?_); (focus exact fun _ _ _ _ h => h); (focus exact ⟨⟨_, HV3.out⟩, rfl⟩); intro K hK; go_simp; (with_reducible refine hK _ ?_); clear hK K)
      refine hall1 (i := 11) (by as_aux_lemma => kernel_rfl) (by rfl) (fun K hK => ?_)
      go_simp
      obtain ⟨v4, hv⟩ : ∃ x, v3.alloc (Obj.cells #[.string ⟨#[97]⟩, .int .i64 0, .int .i64 1, .int .i64 2, .slice (some ⟨a0, 0, none⟩) 1 c0, .slice E0 0 e0, .string ⟨#[98]⟩, .int .i64 0, .int .i64 2, .int .i64 2, .slice (some ⟨g4, 0, none⟩) 2 2, .slice none 0 0, .string ⟨#[111]⟩, .int .i64 1, .int .i64 3, .int .i64 2, .slice (some ⟨a1, 0, none⟩) 1 c1, .slice A2 0 c2, .string ⟨#[99]⟩, .int .i64 2, .int .i64 4, .int .i64 2, .slice (some ⟨b1, 0, none⟩) 1 d1, .slice B2 0 d2] 50) = x := ⟨_, rfl⟩
      rw [hv]
      obtain ⟨gR, hg⟩ : ∃ x, v3.heap.size = x := ⟨_, rfl⟩
      rw [hg]
      have F11 : Aside0 (v4.heap[gR]? = some (.cells #[.string ⟨#[97]⟩, .int .i64 0, .int .i64 1, .int .i64 2, .slice (some ⟨a0, 0, none⟩) 1 c0, .slice E0 0 e0, .string ⟨#[98]⟩, .int .i64 0, .int .i64 2, .int .i64 2, .slice (some ⟨g4, 0, none⟩) 2 2, .slice none 0 0, .string ⟨#[111]⟩, .int .i64 1, .int .i64 3, .int .i64 2, .slice (some ⟨a1, 0, none⟩) 1 c1, .slice A2 0 c2, .string ⟨#[99]⟩, .int .i64 2, .int .i64 4, .int .i64 2, .slice (some ⟨b1, 0, none⟩) 1 d1, .slice B2 0 d2] 50 (0, 0))) := ⟨by rw [← hv, ← hg]; exact blk_new _ _⟩
      have GW11 : Aside0 (W.heap.size < gR) := ⟨by have h1 := HW3.out; have h2 := HV3.out.size; omega⟩
      have ST : Aside0 (Below v3.heap.size v3 v4) := ⟨hv ▸ below1 _ _⟩
      have HV4 : Aside0 (Below w3.heap.size w3 v4) := ⟨join_below HV3.out ST.out⟩
      clear hv hg
      have G0 := Aside0.mk (Nat.lt_of_lt_of_le G0.out ST.out.size)
      have F0 := Aside0.mk (And.intro (Kd.F_below F0.out.1 ST.out) (And.intro (blk_below F0.out.2.1 ST.out) F0.out.2.2))
      have F13 := Aside0.mk (blk_below F13.out ST.out)
      have F4 := Aside0.mk (blk_below F4.out ST.out)
      refine hK _ _ ⟨⟨_, HV4.out⟩, rfl⟩ ?_
      clear hK K ST
      ((refine takeQ (i := 12) (by rfl) (by as_aux_lemma => kernel_rfl) (by as_aux_lemma => kernel_rfl) (by as_aux_lemma => kernel_rfl) ?_ ?_ ?_); (focus exact fun _ _ _ _ h => h); (focus exact ⟨⟨_, HV4.out⟩, rfl⟩); intro K hK; go_simp; (with_reducible refine hK _ ?_); clear hK K)
      have ne4 : g4 ≠ g13 := fun e => by have h := F4.out; rw [e, F13.out] at h; simp at h
      have neR : gR ≠ g13 := fun e => by have h := F11.out; rw [e, F13.out] at h; simp at h
      have y0 : World.cell? v4 ⟨g13, 0, none⟩ = some (.slice none 0 0) := (blk_cell F13.out 0).trans rfl
      have y1 : World.cell? v4 ⟨g13, 1, none⟩ = some (.slice none 0 0) := (blk_cell F13.out 1).trans rfl
      have z0 := blk_frozen F13.out 0
      have z1 := blk_frozen F13.out 1
      have hp1 := blk_put F13.out 0 (.slice (some ⟨gR, 0, none⟩) 4 4) rfl
      have y2 : (World.setCell v4 ⟨g13, 0, none⟩ (.slice (some ⟨gR, 0, none⟩) 4 4)).cell? ⟨g13, 1, none⟩ = some (.slice none 0 0) := (blk_cell hp1 1).trans rfl
      have z2 := blk_frozen hp1 1
      have hp2 := blk_put hp1 1 (.slice none 0 0) rfl
      obtain ⟨uf, huf⟩ : ∃ x, (World.setCell v4 ⟨g13, 0, none⟩ (.slice (some ⟨gR, 0, none⟩) 4 4)).setCell ⟨g13, 1, none⟩ (.slice none 0 0) = x := ⟨_, rfl⟩
      have HBF : Aside0 (Below w3.heap.size w3 uf) := ⟨huf ▸ (HV4.out.setCell HGE.out _).setCell HGE.out _⟩
      have f11 := blk_far (p := ⟨g13, 1, none⟩) (blk_far (p := ⟨g13, 0, none⟩) F11.out neR (.slice (some ⟨gR, 0, none⟩) 4 4)) neR (.slice none 0 0)
      have f4 := blk_far (p := ⟨g13, 1, none⟩) (blk_far (p := ⟨g13, 0, none⟩) F4.out ne4 (.slice (some ⟨gR, 0, none⟩) 4 4)) ne4 (.slice none 0 0)
      have f0 := Kd.F_far (p := ⟨g13, 1, none⟩) (Kd.F_far (p := ⟨g13, 0, none⟩) F0.out.1 (fun k hk => by rw [hk]; exact FN.out) (.slice (some ⟨gR, 0, none⟩) 4 4)) (fun k hk => by rw [hk]; exact FN.out) (.slice none 0 0)
      have fx := blk_far (p := ⟨g13, 1, none⟩) (blk_far (p := ⟨g13, 0, none⟩) F0.out.2.1 FN.out (.slice (some ⟨gR, 0, none⟩) 4 4)) FN.out (.slice none 0 0)
      rw [huf] at hp2 f11 f4 f0 fx
      have HF := Aside0.mk hp2
      have HX := Aside0.mk (And.intro f11 (And.intro f4 (And.intro f0 (And.intro fx F0.out.2.2))))
      have NE := Aside0.mk (And.intro neR ne4)
      clear hp2 f11 f4 f0 fx ne4 neR hp1
      refine hall1 (i := 14) (by as_aux_lemma => kernel_rfl) (by rfl) (fun K hK => ?_)
      go_simp
      clear huf y0 y1 y2 z0 z1 z2 F0 F4 F11 F13
      refine hK _ _ ⟨⟨_, HBF.out⟩, rfl⟩ ?_
      clear hK K
      refine wpAnyH_done (by as_aux_lemma => kernel_rfl) ?_ _
      go_wp2
      go_meet
      case rel =>
       have hx := HX.out
       have BB := join_below HB3.out HBF.out
       have c4 := blk_below (blk_below H1.out.2.2.1 HB12.out) BB
       have c5 := blk_below H2.out.2.2.1 BB
       have l1 := blk_lt (blk_below (blk_below H1.out.2.2.1 HB12.out) HB3.out)
       have l2 := blk_lt (blk_below H2.out.2.2.1 HB3.out)
       have lg := HGE.out
       exact ⟨g13, rfl, ⟨⟨⟨gR, HF.out, made_rowP hx.1 (range_new hx.2.1) hx.2.2.2.2.2 hx.2.2.1 (fun _ => re_none hx.2.2.2.2.1) H1.out.1 (Kd.F_below (Kd.F_below H1.out.2.1 HB12.out) BB) (fun _ => re_none H1.out.2.2.2) H2.out.1 (Kd.F_below H2.out.2.1 BB) (fun _ => re_none H2.out.2.2.2) (Nat.le_of_lt GW11.out) ⟨GW11.out, NE.out.1⟩ ⟨⟨GW.out, FN.out⟩, ne_type hx.2.2.2.1 hx.1 (by decide)⟩ ⟨⟨N1.out, by omega⟩, ne_type c4 hx.1 (by decide)⟩ ⟨⟨N2.out, by omega⟩, ne_type c5 hx.1 (by decide)⟩ ⟨⟨GW4.out, NE.out.2⟩, ne_type hx.2.1 hx.1 (by decide)⟩⟩, HGE.out, HBF.out⟩⟩⟩
  · go_simp
    obtain ⟨v1, hv⟩ : ∃ x, wd.alloc (Obj.cells #[.int .i32 10, .int .i32 10, .int .i32 98, .int .i32 98] 56) = x := ⟨_, rfl⟩
    rw [hv]
    obtain ⟨g4, hg⟩ : ∃ x, wd.heap.size = x := ⟨_, rfl⟩
    rw [hg]
    have F4 : Aside0 (v1.heap[g4]? = some (.cells #[.int .i32 10, .int .i32 10, .int .i32 98, .int .i32 98] 56 (0, 0))) := ⟨by rw [← hv, ← hg]; exact blk_new _ _⟩
    have GW4 : Aside0 (W.heap.size < g4) := ⟨by have h1 := HW3.out; have h2 := HLAT.out.size; omega⟩
    have ST : Aside0 (Below wd.heap.size wd v1) := ⟨hv ▸ below1 _ _⟩
    have HV1 : Aside0 (Below w3.heap.size w3 v1) := ⟨join_below HLAT.out ST.out⟩
    clear hv hg
    refine hK _ _ ⟨⟨_, HV1.out⟩, rfl⟩ ?_
    clear hK K ST
    ((refine takeQ (i := 5) (by rfl) (by as_aux_lemma => kernel_rfl) (by as_aux_lemma => kernel_rfl) (by as_aux_lemma => kernel_rfl) ?_ ?_ ?_); (focus exact fun _ _ _ _ h => h); (focus exact ⟨⟨_, HV1.out⟩, rfl⟩); intro K hK; go_simp; (with_reducible refine hK _ ?_); clear hK K)
    ((refine takeQ (i := 6) (by rfl) (by as_aux_lemma => kernel_rfl) (by as_aux_lemma => kernel_rfl) (by as_aux_lemma => kernel_rfl) ?_ ?_ ?_); (focus exact fun _ _ _ _ h => h); (focus exact ⟨⟨_, HV1.out⟩, rfl⟩); intro K hK; go_simp; (with_reducible refine hK _ ?_); clear hK K)
    refine hall2 (i := 0) (j := 13) (by as_aux_lemma => kernel_rfl) (by rfl) (by rfl) (fun K hK => ?_) (fun K hK => ?_)
    · go_simp
      refine (one_any 97 _).mono ?_
      rintro e v2 ⟨a0, c0, E0, e0, X0, rfl, f1, f2, fX, f3, f4, f5, hb⟩
      have G0 := Aside0.mk f5
      have GW : Aside0 (W.heap.size < a0) := ⟨by have h1 := HW3.out; have h2 := HV1.out.size; omega⟩
      have ST := Aside0.mk hb
      have HV2 : Aside0 (Below w3.heap.size w3 v2) := ⟨join_below HV1.out hb⟩
      have F0 := Aside0.mk (And.intro f2 (And.intro fX (And.intro f3 f1)))
      clear f1 f2 f3 f4 f5 fX hb
      have F4 := Aside0.mk (blk_below F4.out ST.out)
      refine hK _ _ ⟨⟨_, HV2.out⟩, rfl⟩ ?_
      clear hK K ST
      ((refine takeQ (i := 1) (by rfl) (by as_aux_lemma => kernel_rfl) (by as_aux_lemma => kernel_rfl) (by as_aux_lemma => kernel_rfl) ?_ ?_ ?_); (focus exact fun _ _ _ _ h => h); (focus exact ⟨⟨_, HV2.out⟩, rfl⟩); intro K hK; go_simp; (with_reducible refine hK _ ?_); clear hK K)
      refine hall2 (i := 11) (j := 13) (by as_aux_lemma => kernel_rfl) (by rfl) (by rfl) (fun K hK => ?_) (fun K hK => ?_)
      · go_simp
        obtain ⟨v3, hv⟩ : ∃ x, v2.alloc (Obj.cells #[.string ⟨#[97]⟩, .int .i64 0, .int .i64 1, .int .i64 2, .slice (some ⟨a0, 0, none⟩) 1 c0, .slice E0 0 e0, .string ⟨#[98]⟩, .int .i64 0, .int .i64 2, .int .i64 2, .slice (some ⟨g4, 0, none⟩) 2 2, .slice none 0 0, .string ⟨#[111]⟩, .int .i64 1, .int .i64 3, .int .i64 2, .slice (some ⟨a1, 0, none⟩) 1 c1, .slice A2 0 c2, .string ⟨#[99]⟩, .int .i64 2, .int .i64 4, .int .i64 2, .slice (some ⟨b1, 0, none⟩) 1 d1, .slice B2 0 d2] 50) = x := ⟨_, rfl⟩
        rw [hv]
        obtain ⟨gR, hg⟩ : ∃ x, v2.heap.size = x := ⟨_, rfl⟩
        rw [hg]
        have F11 : Aside0 (v3.heap[gR]? = some (.cells #[.string ⟨#[97]⟩, .int .i64 0, .int .i64 1, .int .i64 2, .slice (some ⟨a0, 0, none⟩) 1 c0, .slice E0 0 e0, .string ⟨#[98]⟩, .int .i64 0, .int .i64 2, .int .i64 2, .slice (some ⟨g4, 0, none⟩) 2 2, .slice none 0 0, .string ⟨#[111]⟩, .int .i64 1, .int .i64 3, .int .i64 2, .slice (some ⟨a1, 0, none⟩) 1 c1, .slice A2 0 c2, .string ⟨#[99]⟩, .int .i64 2, .int .i64 4, .int .i64 2, .slice (some ⟨b1, 0, none⟩) 1 d1, .slice B2 0 d2] 50 (0, 0))) := ⟨by rw [← hv, ← hg]; exact blk_new _ _⟩
        have GW11 : Aside0 (W.heap.size < gR) := ⟨by have h1 := HW3.out; have h2 := HV2.out.size; omega⟩
        have ST : Aside0 (Below v2.heap.size v2 v3) := ⟨hv ▸ below1 _ _⟩
        have HV3 : Aside0 (Below w3.heap.size w3 v3) := ⟨join_below HV2.out ST.out⟩
        clear hv hg
        have F4 := Aside0.mk (blk_below F4.out ST.out)
        have G0 := Aside0.mk (Nat.lt_of_lt_of_le G0.out ST.out.size)
        have F0 := Aside0.mk (And.intro (Kd.F_below F0.out.1 ST.out) (And.intro (blk_below F0.out.2.1 ST.out) F0.out.2.2))
        refine hK _ _ ⟨⟨_, HV3.out⟩, rfl⟩ ?_
        clear hK K ST
        ((refine takeQ (i := 12) (by rfl) (by as_aux_lemma => kernel_rfl) (by as_aux_lemma => kernel_rfl) (by as_aux_lemma => kernel_rfl) ?_ ?_ ?_); (focus exact fun _ _ _ _ h => h); (focus exact ⟨⟨_, HV3.out⟩, rfl⟩); intro K hK; go_simp; (with_reducible refine hK _ ?_); clear hK K)
        refine hall1 (i := 13) (by as_aux_lemma => kernel_rfl) (by rfl) (fun K hK => ?_)
        go_simp
        obtain ⟨v4, hv⟩ : ∃ x, v3.alloc (Obj.cells #[.slice none 0 0, .slice none 0 0] 26) = x := ⟨_, rfl⟩
        rw [hv]
        obtain ⟨g13, hg⟩ : ∃ x, v3.heap.size = x := ⟨_, rfl⟩
        rw [hg]
        have F13 : Aside0 (v4.heap[g13]? = some (.cells #[.slice none 0 0, .slice none 0 0] 26 (0, 0))) := ⟨by rw [← hv, ← hg]; exact blk_new _ _⟩
        have GW13 : Aside0 (W.heap.size < g13) := ⟨by have h1 := HW3.out; have h2 := HV3.out.size; omega⟩
        have ST : Aside0 (Below v3.heap.size v3 v4) := ⟨hv ▸ below1 _ _⟩
        have HV4 : Aside0 (Below w3.heap.size w3 v4) := ⟨join_below HV3.out ST.out⟩
        have FN : Aside0 (a0 ≠ g13) := ⟨by have := G0.out; omega⟩
        have HGE : Aside0 (w3.heap.size ≤ g13) := ⟨hg ▸ HV3.out.size⟩
        clear hv hg
        have F4 := Aside0.mk (blk_below F4.out ST.out)
        have G0 := Aside0.mk (Nat.lt_of_lt_of_le G0.out ST.out.size)
        have F0 := Aside0.mk (And.intro (Kd.F_below F0.out.1 ST.out) (And.intro (blk_below F0.out.2.1 ST.out) F0.out.2.2))
        have F11 := Aside0.mk (blk_below F11.out ST.out)
        refine hK _ _ ⟨⟨_, HV4.out⟩, rfl⟩ ?_
        clear hK K ST
        have ne4 : g4 ≠ g13 := fun e => by have h := F4.out; rw [e, F13.out] at h; simp at h
        have neR : gR ≠ g13 := fun e => by have h := F11.out; rw [e, F13.out] at h; simp at h
        have y0 : World.cell? v4 ⟨g13, 0, none⟩ = some (.slice none 0 0) := (blk_cell F13.out 0).trans rfl
        have y1 : World.cell? v4 ⟨g13, 1, none⟩ = some (.slice none 0 0) := (blk_cell F13.out 1).trans rfl
        have z0 := blk_frozen F13.out 0
        have z1 := blk_frozen F13.out 1
        have hp1 := blk_put F13.out 0 (.slice (some ⟨gR, 0, none⟩) 4 4) rfl
        have y2 : (World.setCell v4 ⟨g13, 0, none⟩ (.slice (some ⟨gR, 0, none⟩) 4 4)).cell? ⟨g13, 1, none⟩ = some (.slice none 0 0) := (blk_cell hp1 1).trans rfl
        have z2 := blk_frozen hp1 1
        have hp2 := blk_put hp1 1 (.slice none 0 0) rfl
        obtain ⟨uf, huf⟩ : ∃ x, (World.setCell v4 ⟨g13, 0, none⟩ (.slice (some ⟨gR, 0, none⟩) 4 4)).setCell ⟨g13, 1, none⟩ (.slice none 0 0) = x := ⟨_, rfl⟩
        have HBF : Aside0 (Below w3.heap.size w3 uf) := ⟨huf ▸ (HV4.out.setCell HGE.out _).setCell HGE.out _⟩
        have f11 := blk_far (p := ⟨g13, 1, none⟩) (blk_far (p := ⟨g13, 0, none⟩) F11.out neR (.slice (some ⟨gR, 0, none⟩) 4 4)) neR (.slice none 0 0)
        have f4 := blk_far (p := ⟨g13, 1, none⟩) (blk_far (p := ⟨g13, 0, none⟩) F4.out ne4 (.slice (some ⟨gR, 0, none⟩) 4 4)) ne4 (.slice none 0 0)
        have f0 := Kd.F_far (p := ⟨g13, 1, none⟩) (Kd.F_far (p := ⟨g13, 0, none⟩) F0.out.1 (fun k hk => by rw [hk]; exact FN.out) (.slice (some ⟨gR, 0, none⟩) 4 4)) (fun k hk => by rw [hk]; exact FN.out) (.slice none 0 0)
        have fx := blk_far (p := ⟨g13, 1, none⟩) (blk_far (p := ⟨g13, 0, none⟩) F0.out.2.1 FN.out (.slice (some ⟨gR, 0, none⟩) 4 4)) FN.out (.slice none 0 0)
        rw [huf] at hp2 f11 f4 f0 fx
        have HF := Aside0.mk hp2
        have HX := Aside0.mk (And.intro f11 (And.intro f4 (And.intro f0 (And.intro fx F0.out.2.2))))
        have NE := Aside0.mk (And.intro neR ne4)
        clear hp2 f11 f4 f0 fx ne4 neR hp1
        refine hall1 (i := 14) (by as_aux_lemma => kernel_rfl) (by rfl) (fun K hK => ?_)
        go_simp
        clear huf y0 y1 y2 z0 z1 z2 F0 F4 F11 F13
        refine hK _ _ ⟨⟨_, HBF.out⟩, rfl⟩ ?_
        clear hK K
        refine wpAnyH_done (by as_aux_lemma => kernel_rfl) ?_ _
        go_wp2
        go_meet
        case rel =>
         have hx := HX.out
         have BB := join_below HB3.out HBF.out
         have c4 := blk_below (blk_below H1.out.2.2.1 HB12.out) BB
         have c5 := blk_below H2.out.2.2.1 BB
         have l1 := blk_lt (blk_below (blk_below H1.out.2.2.1 HB12.out) HB3.out)
         have l2 := blk_lt (blk_below H2.out.2.2.1 HB3.out)
         have lg := HGE.out
         exact ⟨g13, rfl, ⟨⟨⟨gR, HF.out, made_rowP hx.1 (range_new hx.2.1) hx.2.2.2.2.2 hx.2.2.1 (fun _ => re_none hx.2.2.2.2.1) H1.out.1 (Kd.F_below (Kd.F_below H1.out.2.1 HB12.out) BB) (fun _ => re_none H1.out.2.2.2) H2.out.1 (Kd.F_below H2.out.2.1 BB) (fun _ => re_none H2.out.2.2.2) (Nat.le_of_lt GW11.out) ⟨GW11.out, NE.out.1⟩ ⟨⟨GW.out, FN.out⟩, ne_type hx.2.2.2.1 hx.1 (by decide)⟩ ⟨⟨N1.out, by omega⟩, ne_type c4 hx.1 (by decide)⟩ ⟨⟨N2.out, by omega⟩, ne_type c5 hx.1 (by decide)⟩ ⟨⟨GW4.out, NE.out.2⟩, ne_type hx.2.1 hx.1 (by decide)⟩⟩, HGE.out, HBF.out⟩⟩⟩
      · go_simp
        obtain ⟨v3, hv⟩ : ∃ x, v2.alloc (Obj.cells #[.slice none 0 0, .slice none 0 0] 26) = x := ⟨_, rfl⟩
        rw [hv]
        obtain ⟨g13, hg⟩ : ∃ x, v2.heap.size = x := ⟨_, rfl⟩
        rw [hg]
        have F13 : Aside0 (v3.heap[g13]? = some (.cells #[.slice none 0 0, .slice none 0 0] 26 (0, 0))) := ⟨by rw [← hv, ← hg]; exact blk_new _ _⟩
        have GW13 : Aside0 (W.heap.size < g13) := ⟨by have h1 := HW3.out; have h2 := HV2.out.size; omega⟩
        have ST : Aside0 (Below v2.heap.size v2 v3) := ⟨hv ▸ below1 _ _⟩
        have HV3 : Aside0 (Below w3.heap.size w3 v3) := ⟨join_below HV2.out ST.out⟩
        have FN : Aside0 (a0 ≠ g13) := ⟨by have := G0.out; omega⟩
        have HGE : Aside0 (w3.heap.size ≤ g13) := ⟨hg ▸ HV2.out.size⟩
        clear hv hg
        have F4 := Aside0.mk (blk_below F4.out ST.out)
        have G0 := Aside0.mk (Nat.lt_of_lt_of_le G0.out ST.out.size)
        have F0 := Aside0.mk (And.intro (Kd.F_below F0.out.1 ST.out) (And.intro (blk_below F0.out.2.1 ST.out) F0.out.2.2))
        refine hK _ _ ⟨⟨_, HV3.out⟩, rfl⟩ ?_
        clear hK K ST
        refine hall1 (i := 11) (by as_aux_lemma => kernel_rfl) (by rfl) (fun K hK => ?_)
        go_simp
        obtain ⟨v4, hv⟩ : ∃ x, v3.alloc (Obj.cells #[.string ⟨#[97]⟩, .int .i64 0, .int .i64 1, .int .i64 2, .slice (some ⟨a0, 0, none⟩) 1 c0, .slice E0 0 e0, .string ⟨#[98]⟩, .int .i64 0, .int .i64 2, .int .i64 2, .slice (some ⟨g4, 0, none⟩) 2 2, .slice none 0 0, .string ⟨#[111]⟩, .int .i64 1, .int .i64 3, .int .i64 2, .slice (some ⟨a1, 0, none⟩) 1 c1, .slice A2 0 c2, .string ⟨#[99]⟩, .int .i64 2, .int .i64 4, .int .i64 2, .slice (some ⟨b1, 0, none⟩) 1 d1, .slice B2 0 d2] 50) = x := ⟨_, rfl⟩
        rw [hv]
        obtain ⟨gR, hg⟩ : ∃ x, v3.heap.size = x := ⟨_, rfl⟩
        rw [hg]
        have F11 : Aside0 (v4.heap[gR]? = some (.cells #[.string ⟨#[97]⟩, .int .i64 0, .int .i64 1, .int .i64 2, .slice (some ⟨a0, 0, none⟩) 1 c0, .slice E0 0 e0, .string ⟨#[98]⟩, .int .i64 0, .int .i64 2, .int .i64 2, .slice (some ⟨g4, 0, none⟩) 2 2, .slice none 0 0, .string ⟨#[111]⟩, .int .i64 1, .int .i64 3, .int .i64 2, .slice (some ⟨a1, 0, none⟩) 1 c1, .slice A2 0 c2, .string ⟨#[99]⟩, .int .i64 2, .int .i64 4, .int .i64 2, .slice (some ⟨b1, 0, none⟩) 1 d1, .slice B2 0 d2] 50 (0, 0))) := ⟨by rw [← hv, ← hg]; exact blk_new _ _⟩
        have GW11 : Aside0 (W.heap.size < gR) := ⟨by have h1 := HW3.out; have h2 := HV3.out.size; omega⟩
        have ST : Aside0 (Below v3.heap.size v3 v4) := ⟨hv ▸ below1 _ _⟩
        have HV4 : Aside0 (Below w3.heap.size w3 v4) := ⟨join_below HV3.out ST.out⟩
        clear hv hg
        have F4 := Aside0.mk (blk_below F4.out ST.out)
        have G0 := Aside0.mk (Nat.lt_of_lt_of_le G0.out ST.out.size)
        have F0 := Aside0.mk (And.intro (Kd.F_below F0.out.1 ST.out) (And.intro (blk_below F0.out.2.1 ST.out) F0.out.2.2))
        have F13 := Aside0.mk (blk_below F13.out ST.out)
        refine hK _ _ ⟨⟨_, HV4.out⟩, rfl⟩ ?_
        clear hK K ST
        ((refine takeQ (i := 12) (by rfl) (by as_aux_lemma => kernel_rfl) (by as_aux_lemma => kernel_rfl) (by as_aux_lemma => kernel_rfl) ?_ ?_ ?_); (focus exact fun _ _ _ _ h => h); (focus exact ⟨⟨_, HV4.out⟩, rfl⟩); intro K hK; go_simp; (with_reducible refine hK _ ?_); clear hK K)
        have ne4 : g4 ≠ g13 := fun e => by have h := F4.out; rw [e, F13.out] at h; simp at h
        have neR : gR ≠ g13 := fun e => by have h := F11.out; rw [e, F13.out] at h; simp at h
        have y0 : World.cell? v4 ⟨g13, 0, none⟩ = some (.slice none 0 0) := (blk_cell F13.out 0).trans rfl
        have y1 : World.cell? v4 ⟨g13, 1, none⟩ = some (.slice none 0 0) := (blk_cell F13.out 1).trans rfl
        have z0 := blk_frozen F13.out 0
        have z1 := blk_frozen F13.out 1
        have hp1 := blk_put F13.out 0 (.slice (some ⟨gR, 0, none⟩) 4 4) rfl
        have y2 : (World.setCell v4 ⟨g13, 0, none⟩ (.slice (some ⟨gR, 0, none⟩) 4 4)).cell? ⟨g13, 1, none⟩ = some (.slice none 0 0) := (blk_cell hp1 1).trans rfl
        have z2 := blk_frozen hp1 1
        have hp2 := blk_put hp1 1 (.slice none 0 0) rfl
        obtain ⟨uf, huf⟩ : ∃ x, (World.setCell v4 ⟨g13, 0, none⟩ (.slice (some ⟨gR, 0, none⟩) 4 4)).setCell ⟨g13, 1, none⟩ (.slice none 0 0) = x := ⟨_, rfl⟩
        have HBF : Aside0 (Below w3.heap.size w3 uf) := ⟨huf ▸ (HV4.out.setCell HGE.out _).setCell HGE.out _⟩
        have f11 := blk_far (p := ⟨g13, 1, none⟩) (blk_far (p := ⟨g13, 0, none⟩) F11.out neR (.slice (some ⟨gR, 0, none⟩) 4 4)) neR (.slice none 0 0)
        have f4 := blk_far (p := ⟨g13, 1, none⟩) (blk_far (p := ⟨g13, 0, none⟩) F4.out ne4 (.slice (some ⟨gR, 0, none⟩) 4 4)) ne4 (.slice none 0 0)
        have f0 := Kd.F_far (p := ⟨g13, 1, none⟩) (Kd.F_far (p := ⟨g13, 0, none⟩) F0.out.1 (fun k hk => by rw [hk]; exact FN.out) (.slice (some ⟨gR, 0, none⟩) 4 4)) (fun k hk => by rw [hk]; exact FN.out) (.slice none 0 0)
        have fx := blk_far (p := ⟨g13, 1, none⟩) (blk_far (p := ⟨g13, 0, none⟩) F0.out.2.1 FN.out (.slice (some ⟨gR, 0, none⟩) 4 4)) FN.out (.slice none 0 0)
        rw [huf] at hp2 f11 f4 f0 fx
        have HF := Aside0.mk hp2
        have HX := Aside0.mk (And.intro f11 (And.intro f4 (And.intro f0 (And.intro fx F0.out.2.2))))
        have NE := Aside0.mk (And.intro neR ne4)
        clear hp2 f11 f4 f0 fx ne4 neR hp1
        refine hall1 (i := 14) (by as_aux_lemma => kernel_rfl) (by rfl) (fun K hK => ?_)
        go_simp
        clear huf y0 y1 y2 z0 z1 z2 F0 F4 F11 F13
        refine hK _ _ ⟨⟨_, HBF.out⟩, rfl⟩ ?_
        clear hK K
        refine wpAnyH_done (by as_aux_lemma => kernel_rfl) ?_ _
        go_wp2
        go_meet
        case rel =>
         have hx := HX.out
         have BB := join_below HB3.out HBF.out
         have c4 := blk_below (blk_below H1.out.2.2.1 HB12.out) BB
         have c5 := blk_below H2.out.2.2.1 BB
         have l1 := blk_lt (blk_below (blk_below H1.out.2.2.1 HB12.out) HB3.out)
         have l2 := blk_lt (blk_below H2.out.2.2.1 HB3.out)
         have lg := HGE.out
         exact ⟨g13, rfl, ⟨⟨⟨gR, HF.out, made_rowP hx.1 (range_new hx.2.1) hx.2.2.2.2.2 hx.2.2.1 (fun _ => re_none hx.2.2.2.2.1) H1.out.1 (Kd.F_below (Kd.F_below H1.out.2.1 HB12.out) BB) (fun _ => re_none H1.out.2.2.2) H2.out.1 (Kd.F_below H2.out.2.1 BB) (fun _ => re_none H2.out.2.2.2) (Nat.le_of_lt GW11.out) ⟨GW11.out, NE.out.1⟩ ⟨⟨GW.out, FN.out⟩, ne_type hx.2.2.2.1 hx.1 (by decide)⟩ ⟨⟨N1.out, by omega⟩, ne_type c4 hx.1 (by decide)⟩ ⟨⟨N2.out, by omega⟩, ne_type c5 hx.1 (by decide)⟩ ⟨⟨GW4.out, NE.out.2⟩, ne_type hx.2.1 hx.1 (by decide)⟩⟩, HGE.out, HBF.out⟩⟩⟩
    · go_simp
      obtain ⟨v2, hv⟩ : ∃ x, v1.alloc (Obj.cells #[.slice none 0 0, .slice none 0 0] 26) = x := ⟨_, rfl⟩
      rw [hv]
      obtain ⟨g13, hg⟩ : ∃ x, v1.heap.size = x := ⟨_, rfl⟩
      rw [hg]
      have F13 : Aside0 (v2.heap[g13]? = some (.cells #[.slice none 0 0, .slice none 0 0] 26 (0, 0))) := ⟨by rw [← hv, ← hg]; exact blk_new _ _⟩
      have GW13 : Aside0 (W.heap.size < g13) := ⟨by have h1 := HW3.out; have h2 := HV1.out.size; omega⟩
      have ST : Aside0 (Below v1.heap.size v1 v2) := ⟨hv ▸ below1 _ _⟩
      have HV2 : Aside0 (Below w3.heap.size w3 v2) := ⟨join_below HV1.out ST.out⟩
      have HGE : Aside0 (w3.heap.size ≤ g13) := ⟨hg ▸ HV1.out.size⟩
      clear hv hg
      have F4 := Aside0.mk (blk_below F4.out ST.out)
      refine hK _ _ ⟨⟨_, HV2.out⟩, rfl⟩ ?_
      clear hK K ST
      refine hall1 (i := 0) (by as_aux_lemma => kernel_rfl) (by rfl) (fun K hK => ?_)
      go_simp
      refine (one_any 97 _).mono ?_
      rintro e v3 ⟨a0, c0, E0, e0, X0, rfl, f1, f2, fX, f3, f4, f5, hb⟩
      have FN : Aside0 (a0 ≠ g13) := ⟨by have := blk_lt F13.out; omega⟩
      have G0 := Aside0.mk f5
      have GW : Aside0 (W.heap.size < a0) := ⟨by have h1 := HW3.out; have h2 := HV2.out.size; omega⟩
      have ST := Aside0.mk hb
      have HV3 : Aside0 (Below w3.heap.size w3 v3) := ⟨join_below HV2.out hb⟩
      have F0 := Aside0.mk (And.intro f2 (And.intro fX (And.intro f3 f1)))
      clear f1 f2 f3 f4 f5 fX hb
      have F4 := Aside0.mk (blk_below F4.out ST.out)
      have F13 := Aside0.mk (blk_below F13.out ST.out)
      refine hK _ _ ⟨⟨_, HV3.out⟩, rfl⟩ ?_
      clear hK K ST
      ((refine takeQ (i := 1) (by rfl) (by as_aux_lemma => kernel_rfl) (by as_aux_lemma => kernel_rfl) (by as_aux_lemma => kernel_rfl) ?_ ?_ ?_); (focus exact fun _ _ _ _ h => h); (focus exact ⟨⟨_, HV3.out⟩, rfl⟩); intro K hK; go_simp; (with_reducible refine hK _ ?_); clear hK K)
      refine hall1 (i := 11) (by as_aux_lemma => kernel_rfl) (by rfl) (fun K hK => ?_)
      go_simp
      obtain ⟨v4, hv⟩ : ∃ x, v3.alloc (Obj.cells #[.string ⟨#[97]⟩, .int .i64 0, .int .i64 1, .int .i64 2, .slice (some ⟨a0, 0, none⟩) 1 c0, .slice E0 0 e0, .string ⟨#[98]⟩, .int .i64 0, .int .i64 2, .int .i64 2, .slice (some ⟨g4, 0, none⟩) 2 2, .slice none 0 0, .string ⟨#[111]⟩, .int .i64 1, .int .i64 3, .int .i64 2, .slice (some ⟨a1, 0, none⟩) 1 c1, .slice A2 0 c2, .string ⟨#[99]⟩, .int .i64 2, .int .i64 4, .int .i64 2, .slice (some ⟨b1, 0, none⟩) 1 d1, .slice B2 0 d2] 50) = x := ⟨_, rfl⟩
      rw [hv]
      obtain ⟨gR, hg⟩ : ∃ x, v3.heap.size = x := ⟨_, rfl⟩
      rw [hg]
      have F11 : Aside0 (v4.heap[gR]? = some (.cells #[.string ⟨#[97]⟩, .int .i64 0, .int .i64 1, .int .i64 2, .slice (some ⟨a0, 0, none⟩) 1 c0, .slice E0 0 e0, .string ⟨#[98]⟩, .int .i64 0, .int .i64 2, .int .i64 2, .slice (some ⟨g4, 0, none⟩) 2 2, .slice none 0 0, .string ⟨#[111]⟩, .int .i64 1, .int .i64 3, .int .i64 2, .slice (some ⟨a1, 0, none⟩) 1 c1, .slice A2 0 c2, .string ⟨#[99]⟩, .int .i64 2, .int .i64 4, .int .i64 2, .slice (some ⟨b1, 0, none⟩) 1 d1, .slice B2 0 d2] 50 (0, 0))) := ⟨by rw [← hv, ← hg]; exact blk_new _ _⟩
      have GW11 : Aside0 (W.heap.size < gR) := ⟨by have h1 := HW3.out; have h2 := HV3.out.size; omega⟩
      have ST : Aside0 (Below v3.heap.size v3 v4) := ⟨hv ▸ below1 _ _⟩
      have HV4 : Aside0 (Below w3.heap.size w3 v4) := ⟨join_below HV3.out ST.out⟩
      clear hv hg
      have F4 := Aside0.mk (blk_below F4.out ST.out)
      have F13 := Aside0.mk (blk_below F13.out ST.out)
      have G0 := Aside0.mk (Nat.lt_of_lt_of_le G0.out ST.out.size)
      have F0 := Aside0.mk (And.intro (Kd.F_below F0.out.1 ST.out) (And.intro (blk_below F0.out.2.1 ST.out) F0.out.2.2))
      refine hK _ _ ⟨⟨_, HV4.out⟩, rfl⟩ ?_
      clear hK K ST
      ((refine takeQ (i := 12) (by rfl) (by as_aux_lemma => kernel_rfl) (by as_aux_lemma => kernel_rfl) (by as_aux_lemma => kernel_rfl) ?_ ?_ ?_); (focus exact fun _ _ _ _ h => h); (focus exact ⟨⟨_, HV4.out⟩, rfl⟩); intro K hK; go_simp; (with_reducible refine hK _ ?_); clear hK K)
      have ne4 : g4 ≠ g13 := fun e => by have h := F4.out; rw [e, F13.out] at h; simp at h
      have neR : gR ≠ g13 := fun e => by have h := F11.out; rw [e, F13.out] at h; simp at h
      have y0 : World.cell? v4 ⟨g13, 0, none⟩ = some (.slice none 0 0) := (blk_cell F13.out 0).trans rfl
      have y1 : World.cell? v4 ⟨g13, 1, none⟩ = some (.slice none 0 0) := (blk_cell F13.out 1).trans rfl
      have z0 := blk_frozen F13.out 0
      have z1 := blk_frozen F13.out 1
      have hp1 := blk_put F13.out 0 (.slice (some ⟨gR, 0, none⟩) 4 4) rfl
      have y2 : (World.setCell v4 ⟨g13, 0, none⟩ (.slice (some ⟨gR, 0, none⟩) 4 4)).cell? ⟨g13, 1, none⟩ = some (.slice none 0 0) := (blk_cell hp1 1).trans rfl
      have z2 := blk_frozen hp1 1
      have hp2 := blk_put hp1 1 (.slice none 0 0) rfl
      obtain ⟨uf, huf⟩ : ∃ x, (World.setCell v4 ⟨g13, 0, none⟩ (.slice (some ⟨gR, 0, none⟩) 4 4)).setCell ⟨g13, 1, none⟩ (.slice none 0 0) = x := ⟨_, rfl⟩
      have HBF : Aside0 (Below w3.heap.size w3 uf) := ⟨huf ▸ (HV4.out.setCell HGE.out _).setCell HGE.out _⟩
      have f11 := blk_far (p := ⟨g13, 1, none⟩) (blk_far (p := ⟨g13, 0, none⟩) F11.out neR (.slice (some ⟨gR, 0, none⟩) 4 4)) neR (.slice none 0 0)
      have f4 := blk_far (p := ⟨g13, 1, none⟩) (blk_far (p := ⟨g13, 0, none⟩) F4.out ne4 (.slice (some ⟨gR, 0, none⟩) 4 4)) ne4 (.slice none 0 0)
      have f0 := Kd.F_far (p := ⟨g13, 1, none⟩) (Kd.F_far (p := ⟨g13, 0, none⟩) F0.out.1 (fun k hk => by rw [hk]; exact FN.out) (.slice (some ⟨gR, 0, none⟩) 4 4)) (fun k hk => by rw [hk]; exact FN.out) (.slice none 0 0)
      have fx := blk_far (p := ⟨g13, 1, none⟩) (blk_far (p := ⟨g13, 0, none⟩) F0.out.2.1 FN.out (.slice (some ⟨gR, 0, none⟩) 4 4)) FN.out (.slice none 0 0)
      rw [huf] at hp2 f11 f4 f0 fx
      have HF := Aside0.mk hp2
      have HX := Aside0.mk (And.intro f11 (And.intro f4 (And.intro f0 (And.intro fx F0.out.2.2))))
      have NE := Aside0.mk (And.intro neR ne4)
      clear hp2 f11 f4 f0 fx ne4 neR hp1
      refine hall1 (i := 14) (by as_aux_lemma => kernel_rfl) (by rfl) (fun K hK => ?_)
      go_simp
      clear huf y0 y1 y2 z0 z1 z2 F0 F4 F11 F13
      refine hK _ _ ⟨⟨_, HBF.out⟩, rfl⟩ ?_
      clear hK K
      refine wpAnyH_done (by as_aux_lemma => kernel_rfl) ?_ _
      go_wp2
      go_meet
      case rel =>
       have hx := HX.out
       have BB := join_below HB3.out HBF.out
       have c4 := blk_below (blk_below H1.out.2.2.1 HB12.out) BB
       have c5 := blk_below H2.out.2.2.1 BB
       have l1 := blk_lt (blk_below (blk_below H1.out.2.2.1 HB12.out) HB3.out)
       have l2 := blk_lt (blk_below H2.out.2.2.1 HB3.out)
       have lg := HGE.out
       exact ⟨g13, rfl, ⟨⟨⟨gR, HF.out, made_rowP hx.1 (range_new hx.2.1) hx.2.2.2.2.2 hx.2.2.1 (fun _ => re_none hx.2.2.2.2.1) H1.out.1 (Kd.F_below (Kd.F_below H1.out.2.1 HB12.out) BB) (fun _ => re_none H1.out.2.2.2) H2.out.1 (Kd.F_below H2.out.2.1 BB) (fun _ => re_none H2.out.2.2.2) (Nat.le_of_lt GW11.out) ⟨GW11.out, NE.out.1⟩ ⟨⟨GW.out, FN.out⟩, ne_type hx.2.2.2.1 hx.1 (by decide)⟩ ⟨⟨N1.out, by omega⟩, ne_type c4 hx.1 (by decide)⟩ ⟨⟨N2.out, by omega⟩, ne_type c5 hx.1 (by decide)⟩ ⟨⟨GW4.out, NE.out.2⟩, ne_type hx.2.1 hx.1 (by decide)⟩⟩, HGE.out, HBF.out⟩⟩⟩
  · go_simp
    obtain ⟨v1, hv⟩ : ∃ x, wd.alloc (Obj.cells #[.slice none 0 0, .slice none 0 0] 26) = x := ⟨_, rfl⟩
    rw [hv]
    obtain ⟨g13, hg⟩ : ∃ x, wd.heap.size = x := ⟨_, rfl⟩
    rw [hg]
    have F13 : Aside0 (v1.heap[g13]? = some (.cells #[.slice none 0 0, .slice none 0 0] 26 (0, 0))) := ⟨by rw [← hv, ← hg]; exact blk_new _ _⟩
    have GW13 : Aside0 (W.heap.size < g13) := ⟨by have h1 := HW3.out; have h2 := HLAT.out.size; omega⟩
    have ST : Aside0 (Below wd.heap.size wd v1) := ⟨hv ▸ below1 _ _⟩
    have HV1 : Aside0 (Below w3.heap.size w3 v1) := ⟨join_below HLAT.out ST.out⟩
    have HGE : Aside0 (w3.heap.size ≤ g13) := ⟨hg ▸ HLAT.out.size⟩
    clear hv hg
    refine hK _ _ ⟨⟨_, HV1.out⟩, rfl⟩ ?_
    clear hK K ST
    refine hall2 (i := 0) (j := 4) (by as_aux_lemma => kernel_rfl) (by rfl) (by rfl) (fun K hK => ?_) (fun K hK => ?_)
    · go_simp
      refine (one_any 97 _).mono ?_
      rintro e v2 ⟨a0, c0, E0, e0, X0, rfl, f1, f2, fX, f3, f4, f5, hb⟩
      have FN : Aside0 (a0 ≠ g13) := ⟨by have := blk_lt F13.out; omega⟩
      have G0 := Aside0.mk f5
      have GW : Aside0 (W.heap.size < a0) := ⟨by have h1 := HW3.out; have h2 := HV1.out.size; omega⟩
      have ST := Aside0.mk hb
      have HV2 : Aside0 (Below w3.heap.size w3 v2) := ⟨join_below HV1.out hb⟩
      have F0 := Aside0.mk (And.intro f2 (And.intro fX (And.intro f3 f1)))
      clear f1 f2 f3 f4 f5 fX hb
      have F13 := Aside0.mk (blk_below F13.out ST.out)
      refine hK _ _ ⟨⟨_, HV2.out⟩, rfl⟩ ?_
      clear hK K ST
      ((refine takeQ (i := 1) (by rfl) (by as_aux_lemma => kernel_rfl) (by as_aux_lemma => kernel_rfl) (by as_aux_lemma => kernel_rfl) ?_ ?_ ?_); (focus exact fun _ _ _ _ h => h); (focus exact ⟨⟨_, HV2.out⟩, rfl⟩); intro K hK; go_simp; (with_reducible refine hK _ ?_); clear hK K)
      refine hall1 (i := 4) (by as_aux_lemma => kernel_rfl) (by rfl) (fun K hK => ?_)
      go_simp
      obtain ⟨v3, hv⟩ : ∃ x, v2.alloc (Obj.cells #[.int .i32 10, .int .i32 10, .int .i32 98, .int .i32 98] 56) = x := ⟨_, rfl⟩
      rw [hv]
      obtain ⟨g4, hg⟩ : ∃ x, v2.heap.size = x := ⟨_, rfl⟩
      rw [hg]
      have F4 : Aside0 (v3.heap[g4]? = some (.cells #[.int .i32 10, .int .i32 10, .int .i32 98, .int .i32 98] 56 (0, 0))) := ⟨by rw [← hv, ← hg]; exact blk_new _ _⟩
      have GW4 : Aside0 (W.heap.size < g4) := ⟨by have h1 := HW3.out; have h2 := HV2.out.size; omega⟩
      have ST : Aside0 (Below v2.heap.size v2 v3) := ⟨hv ▸ below1 _ _⟩
      have HV3 : Aside0 (Below w3.heap.size w3 v3) := ⟨join_below HV2.out ST.out⟩
      clear hv hg
      have F13 := Aside0.mk (blk_below F13.out ST.out)
      have G0 := Aside0.mk (Nat.lt_of_lt_of_le G0.out ST.out.size)
      have F0 := Aside0.mk (And.intro (Kd.F_below F0.out.1 ST.out) (And.intro (blk_below F0.out.2.1 ST.out) F0.out.2.2))
      refine hK _ _ ⟨⟨_, HV3.out⟩, rfl⟩ ?_
      clear hK K ST
      ((refine takeQ (i := 5) (by rfl) (by as_aux_lemma => kernel_rfl) (by as_aux_lemma => kernel_rfl) (by as_aux_lemma => kernel_rfl) ?_ ?_ ?_); (focus exact fun _ _ _ _ h => h); (focus exact ⟨⟨_, HV3.out⟩, rfl⟩); intro K hK; go_simp; (with_reducible refine hK _ ?_); clear hK K)
      ((refine takeQ (i := 6) (by rfl) (by as_aux_lemma => kernel_rfl) (by as_aux_lemma => kernel_rfl) (by as_aux_lemma => kernel_rfl) ?_ ?_ ?_); (focus exact fun _ _ _ _ h => h); (focus exact ⟨⟨_, HV3.out⟩, rfl⟩); intro K hK; go_simp; (with_reducible refine hK _ ?_); clear hK K)
      refine hall1 (i := 11) (by as_aux_lemma => kernel_rfl) (by rfl) (fun K hK => ?_)
      go_simp
      obtain ⟨v4, hv⟩ : ∃ x, v3.alloc (Obj.cells #[.string ⟨#[97]⟩, .int .i64 0, .int .i64 1, .int .i64 2, .slice (some ⟨a0, 0, none⟩) 1 c0, .slice E0 0 e0, .string ⟨#[98]⟩, .int .i64 0, .int .i64 2, .int .i64 2, .slice (some ⟨g4, 0, none⟩) 2 2, .slice none 0 0, .string ⟨#[111]⟩, .int .i64 1, .int .i64 3, .int .i64 2, .slice (some ⟨a1, 0, none⟩) 1 c1, .slice A2 0 c2, .string ⟨#[99]⟩, .int .i64 2, .int .i64 4, .int .i64 2, .slice (some ⟨b1, 0, none⟩) 1 d1, .slice B2 0 d2] 50) = x := ⟨_, rfl⟩
      rw [hv]
      obtain ⟨gR, hg⟩ : ∃ x, v3.heap.size = x := ⟨_, rfl⟩
      rw [hg]
      have F11 : Aside0 (v4.heap[gR]? = some (.cells #[.string ⟨#[97]⟩, .int .i64 0, .int .i64 1, .int .i64 2, .slice (some ⟨a0, 0, none⟩) 1 c0, .slice E0 0 e0, .string ⟨#[98]⟩, .int .i64 0, .int .i64 2, .int .i64 2, .slice (some ⟨g4, 0, none⟩) 2 2, .slice none 0 0, .string ⟨#[111]⟩, .int .i64 1, .int .i64 3, .int .i64 2, .slice (some ⟨a1, 0, none⟩) 1 c1, .slice A2 0 c2, .string ⟨#[99]⟩, .int .i64 2, .int .i64 4, .int .i64 2, .slice (some ⟨b1, 0, none⟩) 1 d1, .slice B2 0 d2] 50 (0, 0))) := ⟨by rw [← hv, ← hg]; exact blk_new _ _⟩
      have GW11 : Aside0 (W.heap.size < gR) := ⟨by have h1 := HW3.out; have h2 := HV3.out.size; omega⟩
      have ST : Aside0 (Below v3.heap.size v3 v4) := ⟨hv ▸ below1 _ _⟩
      have HV4 : Aside0 (Below w3.heap.size w3 v4) := ⟨join_below HV3.out ST.out⟩
      clear hv hg
      have F13 := Aside0.mk (blk_below F13.out ST.out)
      have G0 := Aside0.mk (Nat.lt_of_lt_of_le G0.out ST.out.size)
      have F0 := Aside0.mk (And.intro (Kd.F_below F0.out.1 ST.out) (And.intro (blk_below F0.out.2.1 ST.out) F0.out.2.2))
      have F4 := Aside0.mk (blk_below F4.out ST.out)
      refine hK _ _ ⟨⟨_, HV4.out⟩, rfl⟩ ?_
      clear hK K ST
      ((refine takeQ (i := 12) (by rfl) (by as_aux_lemma => kernel_rfl) (by as_aux_lemma => kernel_rfl) (by as_aux_lemma => kernel_rfl) ?_ ?_ ?_); (focus exact fun _ _ _ _ h => h); (focus exact ⟨⟨_, HV4.out⟩, rfl⟩); intro K hK; go_simp; (with_reducible refine hK _ ?_); clear hK K)
      have ne4 : g4 ≠ g13 := fun e => by have h := F4.out; rw [e, F13.out] at h; simp at h
      have neR : gR ≠ g13 := fun e => by have h := F11.out; rw [e, F13.out] at h; simp at h
      have y0 : World.cell? v4 ⟨g13, 0, none⟩ = some (.slice none 0 0) := (blk_cell F13.out 0).trans rfl
      have y1 : World.cell? v4 ⟨g13, 1, none⟩ = some (.slice none 0 0) := (blk_cell F13.out 1).trans rfl
      have z0 := blk_frozen F13.out 0
      have z1 := blk_frozen F13.out 1
      have hp1 := blk_put F13.out 0 (.slice (some ⟨gR, 0, none⟩) 4 4) rfl
      have y2 : (World.setCell v4 ⟨g13, 0, none⟩ (.slice (some ⟨gR, 0, none⟩) 4 4)).cell? ⟨g13, 1, none⟩ = some (.slice none 0 0) := (blk_cell hp1 1).trans rfl
      have z2 := blk_frozen hp1 1
      have hp2 := blk_put hp1 1 (.slice none 0 0) rfl
      obtain ⟨uf, huf⟩ : ∃ x, (World.setCell v4 ⟨g13, 0, none⟩ (.slice (some ⟨gR, 0, none⟩) 4 4)).setCell ⟨g13, 1, none⟩ (.slice none 0 0) = x := ⟨_, rfl⟩
      have HBF : Aside0 (Below w3.heap.size w3 uf) := ⟨huf ▸ (HV4.out.setCell HGE.out _).setCell HGE.out _⟩
      have f11 := blk_far (p := ⟨g13, 1, none⟩) (blk_far (p := ⟨g13, 0, none⟩) F11.out neR (.slice (some ⟨gR, 0, none⟩) 4 4)) neR (.slice none 0 0)
      have f4 := blk_far (p := ⟨g13, 1, none⟩) (blk_far (p := ⟨g13, 0, none⟩) F4.out ne4 (.slice (some ⟨gR, 0, none⟩) 4 4)) ne4 (.slice none 0 0)
      have f0 := Kd.F_far (p := ⟨g13, 1, none⟩) (Kd.F_far (p := ⟨g13, 0, none⟩) F0.out.1 (fun k hk => by rw [hk]; exact FN.out) (.slice (some ⟨gR, 0, none⟩) 4 4)) (fun k hk => by rw [hk]; exact FN.out) (.slice none 0 0)
      have fx := blk_far (p := ⟨g13, 1, none⟩) (blk_far (p := ⟨g13, 0, none⟩) F0.out.2.1 FN.out (.slice (some ⟨gR, 0, none⟩) 4 4)) FN.out (.slice none 0 0)
      rw [huf] at hp2 f11 f4 f0 fx
      have HF := Aside0.mk hp2
      have HX := Aside0.mk (And.intro f11 (And.intro f4 (And.intro f0 (And.intro fx F0.out.2.2))))
      have NE := Aside0.mk (And.intro neR ne4)
      clear hp2 f11 f4 f0 fx ne4 neR hp1
      refine hall1 (i := 14) (by as_aux_lemma => kernel_rfl) (by rfl) (fun K hK => ?_)
      go_simp
      clear huf y0 y1 y2 z0 z1 z2 F0 F4 F11 F13
      refine hK _ _ ⟨⟨_, HBF.out⟩, rfl⟩ ?_
      clear hK K
      refine wpAnyH_done (by as_aux_lemma => kernel_rfl) ?_ _
      go_wp2
      go_meet
      case rel =>
       have hx := HX.out
       have BB := join_below HB3.out HBF.out
       have c4 := blk_below (blk_below H1.out.2.2.1 HB12.out) BB
       have c5 := blk_below H2.out.2.2.1 BB
       have l1 := blk_lt (blk_below (blk_below H1.out.2.2.1 HB12.out) HB3.out)
       have l2 := blk_lt (blk_below H2.out.2.2.1 HB3.out)
       have lg := HGE.out
       exact ⟨g13, rfl, ⟨⟨⟨gR, HF.out, made_rowP hx.1 (range_new hx.2.1) hx.2.2.2.2.2 hx.2.2.1 (fun _ => re_none hx.2.2.2.2.1) H1.out.1 (Kd.F_below (Kd.F_below H1.out.2.1 HB12.out) BB) (fun _ => re_none H1.out.2.2.2) H2.out.1 (Kd.F_below H2.out.2.1 BB) (fun _ => re_none H2.out.2.2.2) (Nat.le_of_lt GW11.out) ⟨GW11.out, NE.out.1⟩ ⟨⟨GW.out, FN.out⟩, ne_type hx.2.2.2.1 hx.1 (by decide)⟩ ⟨⟨N1.out, by omega⟩, ne_type c4 hx.1 (by decide)⟩ ⟨⟨N2.out, by omega⟩, ne_type c5 hx.1 (by decide)⟩ ⟨⟨GW4.out, NE.out.2⟩, ne_type hx.2.1 hx.1 (by decide)⟩⟩, HGE.out, HBF.out⟩⟩⟩
    · go_simp
      obtain ⟨v2, hv⟩ : ∃ x, v1.alloc (Obj.cells #[.int .i32 10, .int .i32 10, .int .i32 98, .int .i32 98] 56) = x := ⟨_, rfl⟩
      rw [hv]
      obtain ⟨g4, hg⟩ : ∃ x, v1.heap.size = x := ⟨_, rfl⟩
      rw [hg]
      have F4 : Aside0 (v2.heap[g4]? = some (.cells #[.int .i32 10, .int .i32 10, .int .i32 98, .int .i32 98] 56 (0, 0))) := ⟨by rw [← hv, ← hg]; exact blk_new _ _⟩
      have GW4 : Aside0 (W.heap.size < g4) := ⟨by have h1 := HW3.out; have h2 := HV1.out.size; omega⟩
      have ST : Aside0 (Below v1.heap.size v1 v2) := ⟨hv ▸ below1 _ _⟩
      have HV2 : Aside0 (Below w3.heap.size w3 v2) := ⟨join_below HV1.out ST.out⟩
      clear hv hg
      have F13 := Aside0.mk (blk_below F13.out ST.out)
      refine hK _ _ ⟨⟨_, HV2.out⟩, rfl⟩ ?_
      clear hK K ST
      ((refine takeQ (i := 5) (by rfl) (by as_aux_lemma => kernel_rfl) (by as_aux_lemma => kernel_rfl) (by as_aux_lemma => kernel_rfl) ?_ ?_ ?_); (focus exact fun _ _ _ _ h => h); (focus exact ⟨⟨_, HV2.out⟩, rfl⟩); intro K hK; go_simp; (with_reducible refine hK _ ?_); clear hK K)
      ((refine takeQ (i := 6) (by rfl) (by as_aux_lemma => kernel_rfl) (by as_aux_lemma => kernel_rfl) (by as_aux_lemma => kernel_rfl) ?_ ?_ ?_); (focus exact fun _ _ _ _ h => h); (focus exact ⟨⟨_, HV2.out⟩, rfl⟩); intro K hK; go_simp; (with_reducible refine hK _ ?_); clear hK K)
      refine hall1 (i := 0) (by as_aux_lemma => kernel_rfl) (by rfl) (fun K hK => ?_)
      go_simp
      refine (one_any 97 _).mono ?_
      rintro e v3 ⟨a0, c0, E0, e0, X0, rfl, f1, f2, fX, f3, f4, f5, hb⟩
      have FN : Aside0 (a0 ≠ g13) := ⟨by have := blk_lt F13.out; omega⟩
      have G0 := Aside0.mk f5
      have GW : Aside0 (W.heap.size < a0) := ⟨by have h1 := HW3.out; have h2 := HV2.out.size; omega⟩
      have ST := Aside0.mk hb
      have HV3 : Aside0 (Below w3.heap.size w3 v3) := ⟨join_below HV2.out hb⟩
      have F0 := Aside0.mk (And.intro f2 (And.intro fX (And.intro f3 f1)))
      clear f1 f2 f3 f4 f5 fX hb
      have F13 := Aside0.mk (blk_below F13.out ST.out)
      have F4 := Aside0.mk (blk_below F4.out ST.out)
      refine hK _ _ ⟨⟨_, HV3.out⟩, rfl⟩ ?_
      clear hK K ST
      ((refine takeQ (i := 1) (by rfl) (by as_aux_lemma => kernel_rfl) (by as_aux_lemma => kernel_rfl) (by as_aux_lemma => kernel_rfl) ?_ ?_ ?_); (focus exact fun _ _ _ _ h => h); (focus exact ⟨⟨_, HV3.out⟩, rfl⟩); intro K hK; go_simp; (with_reducible refine hK _ ?_); clear hK K)
      refine hall1 (i := 11) (by as_aux_lemma => kernel_rfl) (by rfl) (fun K hK => ?_)
      go_simp
      obtain ⟨v4, hv⟩ : ∃ x, v3.alloc (Obj.cells #[.string ⟨#[97]⟩, .int .i64 0, .int .i64 1, .int .i64 2, .slice (some ⟨a0, 0, none⟩) 1 c0, .slice E0 0 e0, .string ⟨#[98]⟩, .int .i64 0, .int .i64 2, .int .i64 2, .slice (some ⟨g4, 0, none⟩) 2 2, .slice none 0 0, .string ⟨#[111]⟩, .int .i64 1, .int .i64 3, .int .i64 2, .slice (some ⟨a1, 0, none⟩) 1 c1, .slice A2 0 c2, .string ⟨#[99]⟩, .int .i64 2, .int .i64 4, .int .i64 2, .slice (some ⟨b1, 0, none⟩) 1 d1, .slice B2 0 d2] 50) = x := ⟨_, rfl⟩
      rw [hv]
      obtain ⟨gR, hg⟩ : ∃ x, v3.heap.size = x := ⟨_, rfl⟩
      rw [hg]
      have F11 : Aside0 (v4.heap[gR]? = some (.cells #[.string ⟨#[97]⟩, .int .i64 0, .int .i64 1, .int .i64 2, .slice (some ⟨a0, 0, none⟩) 1 c0, .slice E0 0 e0, .string ⟨#[98]⟩, .int .i64 0, .int .i64 2, .int .i64 2, .slice (some ⟨g4, 0, none⟩) 2 2, .slice none 0 0, .string ⟨#[111]⟩, .int .i64 1, .int .i64 3, .int .i64 2, .slice (some ⟨a1, 0, none⟩) 1 c1, .slice A2 0 c2, .string ⟨#[99]⟩, .int .i64 2, .int .i64 4, .int .i64 2, .slice (some ⟨b1, 0, none⟩) 1 d1, .slice B2 0 d2] 50 (0, 0))) := ⟨by rw [← hv, ← hg]; exact blk_new _ _⟩
      have GW11 : Aside0 (W.heap.size < gR) := ⟨by have h1 := HW3.out; have h2 := HV3.out.size; omega⟩
      have ST : Aside0 (Below v3.heap.size v3 v4) := ⟨hv ▸ below1 _ _⟩
      have HV4 : Aside0 (Below w3.heap.size w3 v4) := ⟨join_below HV3.out ST.out⟩
      clear hv hg
      have F13 := Aside0.mk (blk_below F13.out ST.out)
      have F4 := Aside0.mk (blk_below F4.out ST.out)
      have G0 := Aside0.mk (Nat.lt_of_lt_of_le G0.out ST.out.size)
      have F0 := Aside0.mk (And.intro (Kd.F_below F0.out.1 ST.out) (And.intro (blk_below F0.out.2.1 ST.out) F0.out.2.2))
      refine hK _ _ ⟨⟨_, HV4.out⟩, rfl⟩ ?_
      clear hK K ST
      ((refine takeQ (i := 12) (by rfl) (by as_aux_lemma => kernel_rfl) (by as_aux_lemma => kernel_rfl) (by as_aux_lemma => kernel_rfl) ?_ ?_ ?_); (focus exact fun _ _ _ _ h => h); (focus exact ⟨⟨_, HV4.out⟩, rfl⟩); intro K hK; go_simp; (with_reducible refine hK _ ?_); clear hK K)
      have ne4 : g4 ≠ g13 := fun e => by have h := F4.out; rw [e, F13.out] at h; simp at h
      have neR : gR ≠ g13 := fun e => by have h := F11.out; rw [e, F13.out] at h; simp at h
      have y0 : World.cell? v4 ⟨g13, 0, none⟩ = some (.slice none 0 0) := (blk_cell F13.out 0).trans rfl
      have y1 : World.cell? v4 ⟨g13, 1, none⟩ = some (.slice none 0 0) := (blk_cell F13.out 1).trans rfl
      have z0 := blk_frozen F13.out 0
      have z1 := blk_frozen F13.out 1
      have hp1 := blk_put F13.out 0 (.slice (some ⟨gR, 0, none⟩) 4 4) rfl
      have y2 : (World.setCell v4 ⟨g13, 0, none⟩ (.slice (some ⟨gR, 0, none⟩) 4 4)).cell? ⟨g13, 1, none⟩ = some (.slice none 0 0) := (blk_cell hp1 1).trans rfl
      have z2 := blk_frozen hp1 1
      have hp2 := blk_put hp1 1 (.slice none 0 0) rfl
      obtain ⟨uf, huf⟩ : ∃ x, (World.setCell v4 ⟨g13, 0, none⟩ (.slice (some ⟨gR, 0, none⟩) 4 4)).setCell ⟨g13, 1, none⟩ (.slice none 0 0) = x := ⟨_, rfl⟩
      have HBF : Aside0 (Below w3.heap.size w3 uf) := ⟨huf ▸ (HV4.out.setCell HGE.out _).setCell HGE.out _⟩
      have f11 := blk_far (p := ⟨g13, 1, none⟩) (blk_far (p := ⟨g13, 0, none⟩) F11.out neR (.slice (some ⟨gR, 0, none⟩) 4 4)) neR (.slice none 0 0)
      have f4 := blk_far (p := ⟨g13, 1, none⟩) (blk_far (p := ⟨g13, 0, none⟩) F4.out ne4 (.slice (some ⟨gR, 0, none⟩) 4 4)) ne4 (.slice none 0 0)
      have f0 := Kd.F_far (p := ⟨g13, 1, none⟩) (Kd.F_far (p := ⟨g13, 0, none⟩) F0.out.1 (fun k hk => by rw [hk]; exact FN.out) (.slice (some ⟨gR, 0, none⟩) 4 4)) (fun k hk => by rw [hk]; exact FN.out) (.slice none 0 0)
      have fx := blk_far (p := ⟨g13, 1, none⟩) (blk_far (p := ⟨g13, 0, none⟩) F0.out.2.1 FN.out (.slice (some ⟨gR, 0, none⟩) 4 4)) FN.out (.slice none 0 0)
      rw [huf] at hp2 f11 f4 f0 fx
      have HF := Aside0.mk hp2
      have HX := Aside0.mk (And.intro f11 (And.intro f4 (And.intro f0 (And.intro fx F0.out.2.2))))
      have NE := Aside0.mk (And.intro neR ne4)
      clear hp2 f11 f4 f0 fx ne4 neR hp1
      refine hall1 (i := 14) (by as_aux_lemma => kernel_rfl) (by rfl) (fun K hK => ?_)
      go_simp
      clear huf y0 y1 y2 z0 z1 z2 F0 F4 F11 F13
      refine hK _ _ ⟨⟨_, HBF.out⟩, rfl⟩ ?_
      clear hK K
      refine wpAnyH_done (by as_aux_lemma => kernel_rfl) ?_ _
      go_wp2
      go_meet
      case rel =>
       have hx := HX.out
       have BB := join_below HB3.out HBF.out
       have c4 := blk_below (blk_below H1.out.2.2.1 HB12.out) BB
       have c5 := blk_below H2.out.2.2.1 BB
       have l1 := blk_lt (blk_below (blk_below H1.out.2.2.1 HB12.out) HB3.out)
       have l2 := blk_lt (blk_below H2.out.2.2.1 HB3.out)
       have lg := HGE.out
       exact ⟨g13, rfl, ⟨⟨⟨gR, HF.out, made_rowP hx.1 (range_new hx.2.1) hx.2.2.2.2.2 hx.2.2.1 (fun _ => re_none hx.2.2.2.2.1) H1.out.1 (Kd.F_below (Kd.F_below H1.out.2.1 HB12.out) BB) (fun _ => re_none H1.out.2.2.2) H2.out.1 (Kd.F_below H2.out.2.1 BB) (fun _ => re_none H2.out.2.2.2) (Nat.le_of_lt GW11.out) ⟨GW11.out, NE.out.1⟩ ⟨⟨GW.out, FN.out⟩, ne_type hx.2.2.2.1 hx.1 (by decide)⟩ ⟨⟨N1.out, by omega⟩, ne_type c4 hx.1 (by decide)⟩ ⟨⟨N2.out, by omega⟩, ne_type c5 hx.1 (by decide)⟩ ⟨⟨GW4.out, NE.out.2⟩, ne_type hx.2.1 hx.1 (by decide)⟩⟩, HGE.out, HBF.out⟩⟩⟩
 obtain ⟨gG, rfl, HG⟩ := hcut
 clear q0 q1 q2 r0 r1 r2
 go_upto_if 33 with (fail)
 obtain ⟨b6, hb6⟩ : ∃ x, wc.heap.size = x := ⟨_, rfl⟩
 obtain ⟨w4, hw4⟩ : ∃ x, (wc.alloc (Obj.cells #[.string ⟨#[111]⟩] 9)).alloc (Obj.cells #[.string ⟨#[99]⟩] 9) = x := ⟨_, rfl⟩
 have K6 : Aside0 (w4.heap[b6]? = some (.cells #[.string ⟨#[111]⟩] 9 (0, 0))) := ⟨by rw [← hw4, ← hb6]; exact blk_alloc (blk_new _ _) _⟩
 have K7 : Aside0 (w4.heap[b6 + 1]? = some (.cells #[.string ⟨#[99]⟩] 9 (0, 0))) := ⟨by rw [← hw4, ← hb6]; exact second wc _ _ _⟩
 have HB4 : Aside0 (Below wc.heap.size wc w4) := ⟨hw4 ▸ below_alloc (below1 _ _) _⟩
 have HB6 : Aside0 (wc.heap.size = b6) := ⟨hb6⟩
 rw [hw4, hb6]
 clear hw4 hb6
 go_cut [6, 7] (fun v6 v7 w' => Aside0 (MadeH W w3 gG ls.length v6 v7 w'))
 case first =>
  have HGN := Aside0.mk HG.out.g
  obtain ⟨gR, hgb, hgn⟩ := HGN.out
  have HGN := Aside0.mk hgn
  have HGB0 := Aside0.mk hgb
  have HGB := Aside0.mk (blk_below hgb HB4.out)
  have HGL : Aside0 (gG < w4.heap.size) := ⟨blk_lt HGB.out⟩
  have HAB : Aside0 (a1 < w3.heap.size ∧ b1 < w3.heap.size) := ⟨blk_lt (blk_below (blk_below H1.out.2.2.1 HB12.out) HB3.out), blk_lt (blk_below H2.out.2.2.1 HB3.out)⟩
  clear hgb hgn
  by_cases h3 : 3 < ls.length
  · skip
    have e1 : decide (3 < (ls.length : Int)) = true := decide_eq_true (by omega)
    have H3 := Aside0.mk h3
    clear h3
    rw [e1]
    go_upto_region 5 with (fail)
    clear e1
    obtain ⟨wd, hwd⟩ : ∃ x, w4.drew = x := ⟨_, rfl⟩
    have HLW : Aside0 (Below w4.heap.size w4 wd) := ⟨hwd ▸ below_drew1 (Below.refl _ _)⟩
    refine Ord.region_L (S := fun w' => ∃ p : Later w4, w' = p.wx) (L := 15) (by as_aux_lemma => kernel_rfl) ?_
    rw [hwd]
    clear hwd
    have y0 : ∀ p : Later w4, p.wx.cell? ⟨gG, 0, none⟩ = some (.slice (some ⟨gR, 0, none⟩) 4 4) := fun p => cell_after p.below ((blk_cell HGB.out 0).trans rfl)
    have m0 := fun p : Later w4 => HQR.out.1 ⟨p.wx, join_below (join_below HG.out.b HB4.out) p.below⟩
    have m1 := fun p : Later w4 => HQR.out.2.1 ⟨p.wx, join_below (join_below HG.out.b HB4.out) p.below⟩
    have m2 := fun p : Later w4 => HQR.out.2.2.1 ⟨p.wx, join_below (join_below HG.out.b HB4.out) p.below⟩
    have m3 := fun p : Later w4 => HQR.out.2.2.2.1 ⟨p.wx, join_below (join_below HG.out.b HB4.out) p.below⟩
    have m4 := fun p : Later w4 => HQR.out.2.2.2.2.1 ⟨p.wx, join_below (join_below HG.out.b HB4.out) p.below⟩
    have m5 := fun p : Later w4 => HQR.out.2.2.2.2.2 ⟨p.wx, join_below (join_below HG.out.b HB4.out) p.below⟩
    simp only at m0 m1 m2 m3 m4 m5
    ((refine Ord.takeL (i := 0) (by rfl) (by as_aux_lemma => kernel_rfl) ?_ ?_ ?_); (focus first | exact fun _ _ _ _ h => h | exact fun _ _ _ _ h => HPQ.out _ _ _ _ (by rfl) h); (focus exact ⟨⟨_, HLW.out⟩, rfl⟩); intro K hK; go_simp; (with_reducible refine hK _ ?_); clear hK K)
    ((refine Ord.takeL (i := 1) (by rfl) (by as_aux_lemma => kernel_rfl) ?_ ?_ ?_); (focus first | exact fun _ _ _ _ h => h | exact fun _ _ _ _ h => HPQ.out _ _ _ _ (by rfl) h); (focus exact ⟨⟨_, HLW.out⟩, rfl⟩); intro K hK; go_simp; (with_reducible refine hK _ ?_); clear hK K)
    ((refine Ord.takeL (i := 2) (by rfl) (by as_aux_lemma => kernel_rfl) ?_ ?_ ?_); (focus first | exact fun _ _ _ _ h => h | exact fun _ _ _ _ h => HPQ.out _ _ _ _ (by rfl) h); (focus exact ⟨⟨_, HLW.out⟩, rfl⟩); intro K hK; go_simp; (with_reducible refine hK _ ?_); clear hK K)
    ((refine Ord.takeL (i := 3) (by rfl) (by as_aux_lemma => kernel_rfl) ?_ ?_ ?_); (focus first | exact fun _ _ _ _ h => h | exact fun _ _ _ _ h => HPQ.out _ _ _ _ (by rfl) h); (focus exact ⟨⟨_, HLW.out⟩, rfl⟩); intro K hK; go_simp; (with_reducible refine hK _ ?_); clear hK K)
    ((refine Ord.takeL (i := 7) (by rfl) (by as_aux_lemma => kernel_rfl) ?_ ?_ ?_); (focus first | exact fun _ _ _ _ h => h | exact fun _ _ _ _ h => HPQ.out _ _ _ _ (by rfl) h); (focus exact ⟨⟨_, HLW.out⟩, rfl⟩); intro K hK; go_simp; (with_reducible refine hK _ ?_); clear hK K)
    clear y0 m0 m1 m2 m3 m4 m5
    refine Ord.allL2 (i := 4) (j := 8) (by as_aux_lemma => kernel_rfl) (by rfl) (by rfl) (fun K hK => ?_) (fun K hK => ?_)
    · skip
      go_simp
      obtain ⟨u1, hv⟩ : ∃ x, wd.alloc (.cells #[.int .i64 2, .slice (some ⟨a1, 0, none⟩) 1 c1, .slice A2 0 c2, .int .i64 2, .slice (some ⟨a1, 0, none⟩) 1 c1, .slice A2 0 c2] 48) = x := ⟨_, rfl⟩
      rw [hv]
      obtain ⟨b4, hg⟩ : ∃ x, wd.heap.size = x := ⟨_, rfl⟩
      rw [hg]
      have K4 : Aside0 (u1.heap[b4]? = some (.cells #[.int .i64 2, .slice (some ⟨a1, 0, none⟩) 1 c1, .slice A2 0 c2, .int .i64 2, .slice (some ⟨a1, 0, none⟩) 1 c1, .slice A2 0 c2] 48 (0, 0))) := ⟨by rw [← hv, ← hg]; exact blk_new _ _⟩
      have ST : Aside0 (Below wd.heap.size wd u1) := ⟨hv ▸ below1 _ _⟩
      have G4 : Aside0 (w4.heap.size ≤ b4) := ⟨hg ▸ HLW.out.size⟩
      clear hv hg
      have HLW := Aside0.mk (join_below HLW.out ST.out)
      refine hK _ _ ⟨⟨_, HLW.out⟩, rfl⟩ ?_
      clear hK K ST
      ((refine Ord.takeL (i := 5) (by rfl) (by as_aux_lemma => kernel_rfl) ?_ ?_ ?_); (focus first | exact fun _ _ _ _ h => h | exact fun _ _ _ _ h => HPQ.out _ _ _ _ (by rfl) h); (focus exact ⟨⟨_, HLW.out⟩, rfl⟩); intro K hK; go_simp; (with_reducible refine hK _ ?_); clear hK K)
      ((refine Ord.takeL (i := 6) (by rfl) (by as_aux_lemma => kernel_rfl) ?_ ?_ ?_); (focus first | exact fun _ _ _ _ h => h | exact fun _ _ _ _ h => HPQ.out _ _ _ _ (by rfl) h); (focus exact ⟨⟨_, HLW.out⟩, rfl⟩); intro K hK; go_simp; (with_reducible refine hK _ ?_); clear hK K)
      refine Ord.allL1 (i := 8) (by as_aux_lemma => kernel_rfl) (by rfl) (fun K hK => ?_)
      go_simp
      refine (one_any 97 _).mono ?_
      rintro e u2 ⟨a0, c0, E0, e0, X0, rfl, f1, f2, fX, f3, f4, f5, hb⟩
      have ST := Aside0.mk hb
      have G8 : Aside0 (w4.heap.size ≤ a0) := ⟨Nat.le_trans HLW.out.size f4⟩
      have HLW := Aside0.mk (join_below HLW.out ST.out)
      have K4 := Aside0.mk (blk_below K4.out ST.out)
      have F0 := Aside0.mk f2
      have FE := Aside0.mk (And.intro f1 f3)
      clear f1 f2 fX f3 f4 f5 hb
      refine hK _ _ ⟨⟨_, HLW.out⟩, rfl⟩ ?_
      clear hK K ST
      refine Ord.allL1 (i := 9) (by as_aux_lemma => kernel_rfl) (by rfl) (fun K hK => ?_)
      go_simp
      obtain ⟨u3, hv⟩ : ∃ x, u2.alloc (.cells #[.int .i64 2, .slice (some ⟨b1, 0, none⟩) 1 d1, .slice B2 0 d2, .int .i64 2, .slice (some ⟨a0, 0, none⟩) 1 c0, .slice E0 0 e0] 48) = x := ⟨_, rfl⟩
      rw [hv]
      obtain ⟨b9, hg⟩ : ∃ x, u2.heap.size = x := ⟨_, rfl⟩
      rw [hg]
      have K9 : Aside0 (u3.heap[b9]? = some (.cells #[.int .i64 2, .slice (some ⟨b1, 0, none⟩) 1 d1, .slice B2 0 d2, .int .i64 2, .slice (some ⟨a0, 0, none⟩) 1 c0, .slice E0 0 e0] 48 (0, 0))) := ⟨by rw [← hv, ← hg]; exact blk_new _ _⟩
      have ST : Aside0 (Below u2.heap.size u2 u3) := ⟨hv ▸ below1 _ _⟩
      have G9 : Aside0 (w4.heap.size ≤ b9) := ⟨hg ▸ HLW.out.size⟩
      clear hv hg
      have HLW := Aside0.mk (join_below HLW.out ST.out)
      have K4 := Aside0.mk (blk_below K4.out ST.out)
      have F0 := Aside0.mk (Kd.F_below F0.out ST.out)
      refine hK _ _ ⟨⟨_, HLW.out⟩, rfl⟩ ?_
      clear hK K ST
      ((refine Ord.takeL (i := 10) (by rfl) (by as_aux_lemma => kernel_rfl) ?_ ?_ ?_); (focus first | exact fun _ _ _ _ h => h | exact fun _ _ _ _ h => HPQ.out _ _ _ _ (by rfl) h); (focus exact ⟨⟨_, HLW.out⟩, rfl⟩); intro K hK; go_simp; (with_reducible refine hK _ ?_); clear hK K)
      ((refine Ord.takeL (i := 11) (by rfl) (by as_aux_lemma => kernel_rfl) ?_ ?_ ?_); (focus first | exact fun _ _ _ _ h => h | exact fun _ _ _ _ h => HPQ.out _ _ _ _ (by rfl) h); (focus exact ⟨⟨_, HLW.out⟩, rfl⟩); intro K hK; go_simp; (with_reducible refine hK _ ?_); clear hK K)
      refine Ord.allL1 (i := 12) (by as_aux_lemma => kernel_rfl) (by rfl) (fun K hK => ?_)
      go_simp
      obtain ⟨u4, hv⟩ : ∃ x, u3.alloc (.cells #[.string ⟨#[112]⟩, .int .i64 1, .int .i64 5, .int .i64 3, .slice none 0 0, .slice (some ⟨b4, 0, none⟩) 2 2, .string ⟨#[113]⟩, .int .i64 2, .int .i64 6, .int .i64 3, .slice none 0 0, .slice (some ⟨b9, 0, none⟩) 2 2] 50) = x := ⟨_, rfl⟩
      rw [hv]
      obtain ⟨b12, hg⟩ : ∃ x, u3.heap.size = x := ⟨_, rfl⟩
      rw [hg]
      have K12 : Aside0 (u4.heap[b12]? = some (.cells #[.string ⟨#[112]⟩, .int .i64 1, .int .i64 5, .int .i64 3, .slice none 0 0, .slice (some ⟨b4, 0, none⟩) 2 2, .string ⟨#[113]⟩, .int .i64 2, .int .i64 6, .int .i64 3, .slice none 0 0, .slice (some ⟨b9, 0, none⟩) 2 2] 50 (0, 0))) := ⟨by rw [← hv, ← hg]; exact blk_new _ _⟩
      have ST : Aside0 (Below u3.heap.size u3 u4) := ⟨hv ▸ below1 _ _⟩
      have G12 : Aside0 (w4.heap.size ≤ b12) := ⟨hg ▸ HLW.out.size⟩
      clear hv hg
      have HLW := Aside0.mk (join_below HLW.out ST.out)
      have K4 := Aside0.mk (blk_below K4.out ST.out)
      have F0 := Aside0.mk (Kd.F_below F0.out ST.out)
      have K9 := Aside0.mk (blk_below K9.out ST.out)
      refine hK _ _ ⟨⟨_, HLW.out⟩, rfl⟩ ?_
      clear hK K ST
      have BB := Aside0.mk (join_below (join_below HG.out.b HB4.out) HLW.out)
      have R1 : Aside0 (Kd.F k48 u4 (fun q => q = b4 ∨ q = a1) (some ⟨b4, 0, none⟩) 2 [oneT 99, oneT 99]) := ⟨by have h := k48_mkF u4 (fun q => q = a1) (oneT 99) H1.out.1 (Kd.F_below (Kd.F_below H1.out.2.1 HB12.out) (join_below HB3.out BB.out)) (Nat.zero_le c2) (re_noneF (fun _ => re_none H1.out.2.2.2)); exact f_two K4.out rfl h h (fun q h => h) (fun q h => h)⟩
      have R2 : Aside0 (Kd.F k48 u4 (fun q => q = b9 ∨ (q = b1 ∨ q = a0)) (some ⟨b9, 0, none⟩) 2 [oneT 100, oneT 97]) := ⟨by have h := k48_mkF u4 (fun q => q = b1) (oneT 100) H2.out.1 (Kd.F_below H2.out.2.1 (join_below HB3.out BB.out)) (Nat.zero_le d2) (re_noneF (fun _ => re_none H2.out.2.2.2)); have h' := k48_mkF u4 (fun q => q = a0) (oneT 97) FE.out.1 F0.out (Nat.zero_le e0) (re_noneF (fun _ => re_none FE.out.2)); exact f_two K9.out rfl h h' (fun q h => Or.inl h) (fun q h => Or.inr h)⟩
      have T1 : Aside0 (Kd.FK kTok u4 (fun q => q = b4 ∨ q = a1) ⟨⟨#[112]⟩, 1, 5, ⟨3, [], [oneT 99, oneT 99]⟩⟩ [.string ⟨#[112]⟩, .int .i64 1, .int .i64 5, .int .i64 3, .slice none 0 0, .slice (some ⟨b4, 0, none⟩) 2 2]) := ⟨k50_mkF u4 _ ⟨⟨#[112]⟩, 1, 5, ⟨3, [], [oneT 99, oneT 99]⟩⟩ (show 0 ≤ 0 from Nat.le_refl _) (Kd.F_nil _ _ _) (show 2 ≤ 2 from Nat.le_refl _) R1.out⟩
      have T2 : Aside0 (Kd.FK kTok u4 (fun q => q = b9 ∨ (q = b1 ∨ q = a0)) ⟨⟨#[113]⟩, 2, 6, ⟨3, [], [oneT 100, oneT 97]⟩⟩ [.string ⟨#[113]⟩, .int .i64 2, .int .i64 6, .int .i64 3, .slice none 0 0, .slice (some ⟨b9, 0, none⟩) 2 2]) := ⟨k50_mkF u4 _ ⟨⟨#[113]⟩, 2, 6, ⟨3, [], [oneT 100, oneT 97]⟩⟩ (show 0 ≤ 0 from Nat.le_refl _) (Kd.F_nil _ _ _) (show 2 ≤ 2 from Nat.le_refl _) R2.out⟩
      have HPQ := Aside0.mk (f_two (okB := fun q => (q = b4 ∨ q = a1) ∨ (q = b9 ∨ (q = b1 ∨ q = a0))) K12.out rfl T1.out T2.out (fun q h => Or.inl h) (fun q h => Or.inr h))
      have HTT := Aside0.mk (Kd.N_F (Kd.N_below HGN.out (join_below HB4.out HLW.out)))
      refine Ord.allL1 (i := 13) (by as_aux_lemma => kernel_rfl) (by rfl) (fun K hK => ?_)
      refine n_append_full kTok (w0 := W) W.heap.size (by rfl) (.tmp 35) (.tmp 46) 23 50 (.agg #[.string ⟨#[]⟩, .int .i64 0, .int .i64 0, .int .i64 0, .slice none 0 0, .slice none 0 0]) 88 rfl Tryd.underlying23 (by as_aux_lemma => kernel_rfl) rfl (by decide) (by decide) madeT tokPQ ⟨gR, 0, none⟩ ⟨b12, 0, none⟩ 4 2 2 (fun k => W.heap.size < k ∧ k ≠ gG) (fun k => W.heap.size < k ∧ k ≠ gG) (fun q => q = b12 ∨ ((q = b4 ∨ q = a1) ∨ (q = b9 ∨ (q = b1 ∨ q = a0)))) rfl rfl HTT.out HPQ.out (by decide) (fun q h => h) (fun q hq => ?hX) (fun q hq => ?hF) (join_below (join_below HB2.out HB3.out) BB.out) ?hS (by decide) ?_
      case hX => have h1 := G4.out; have h2 := G8.out; have h3 := G9.out; have h4 := G12.out; have h5 := HGL.out; have h6 := N1.out; have h7 := N2.out; have h8 := HG.out.ge; have h9 := HAB.out; have h10 := HW3.out; rcases hq with hq | (hq | hq) | hq | hq | hq <;> (subst hq; exact ⟨by omega, by omega⟩)
      case hF => have h1 := HLW.out.size; have h5 := HGL.out; have h10 := HW3.out; have h8 := HG.out.ge; exact ⟨by omega, by omega⟩
      case hS => have h1 := HLW.out.size; have h5 := HGL.out; have h10 := HW3.out; have h8 := HG.out.ge; omega
      intro v9 w9 hN hB hgr hat
      obtain ⟨A9, c9, hv9⟩ := Kd.N_slice hN
      subst hv9
      have HN9 := Aside0.mk hN
      have HLW := Aside0.mk (join_below HLW.out (Below.grown (Below.refl _ _) hgr (Nat.le_refl _) (fun k hk => by cases hk)))
      clear hN hB hgr hat
      refine hK _ _ ⟨⟨_, HLW.out⟩, rfl⟩ ?_
      clear hK K
      ((refine Ord.takeL (i := 14) (by rfl) (by as_aux_lemma => kernel_rfl) ?_ ?_ ?_); (focus first | exact fun _ _ _ _ h => h | exact fun _ _ _ _ h => HPQ.out _ _ _ _ (by rfl) h); (focus exact ⟨⟨_, HLW.out⟩, rfl⟩); intro K hK; go_simp; (with_reducible refine hK _ ?_); clear hK K)
      have y0 : World.cell? w9 ⟨gG, 0, none⟩ = some (.slice (some ⟨gR, 0, none⟩) 4 4) := (blk_cell (blk_below HGB.out HLW.out) 0).trans rfl
      have z0 := blk_frozen (blk_below HGB.out HLW.out) 0
      refine Ord.lastL (by as_aux_lemma => kernel_rfl) (by rfl) (by decide) (fun K hK => ?_)
      go_simp
      clear y0 z0
      refine hK _ _ ?_
      clear hK K
      obtain ⟨w8, hw8⟩ : ∃ x, w9.setCell ⟨gG, 0, none⟩ (.slice A9 (madeT.length + tokPQ.length) c9) = x := ⟨_, rfl⟩
      have HB8 : Aside0 (Below w3.heap.size w3 w8) := ⟨hw8 ▸ (join_below (join_below HG.out.b HB4.out) HLW.out).setCell HG.out.ge _⟩
      have HK8 : Aside0 (w8.heap[gG]? = some (.cells #[.slice A9 (madeT.length + tokPQ.length) c9, .slice none 0 0] 26 (0, 0))) := ⟨hw8 ▸ blk_put (blk_below HGB.out HLW.out) 0 _ rfl⟩
      have HN8 : Aside0 (Kd.N kTok 50 w8 W.heap.size (fun k => W.heap.size < k ∧ k ≠ gG) (.slice A9 (madeT.length + tokPQ.length) c9) (madeT ++ tokPQ)) := ⟨hw8 ▸ Kd.N_far (p := ⟨gG, 0, none⟩) (List.length_append ▸ HN9.out) (fun q hq => hq.2) _⟩
      have HE8 : Aside0 (gG < w8.heap.size) := ⟨blk_lt HK8.out⟩
      rw [hw8]
      clear hw8
      refine wpAnyH_done (by as_aux_lemma => kernel_rfl) ?_ _
      go_wp2
      go_meet
      case rel => exact ⟨⟨⟨_, _, _, blk_below HK8.out (below_alloc (below1 _ _) _), by unfold madeTs; rw [if_pos H3.out]; exact Kd.N_below HN8.out (below_alloc (below1 _ _) _)⟩, HG.out.ge, by unfold madeCalls; rw [if_pos H3.out]; exact ⟨w8.heap.size, rfl, by have := HE8.out; have := HG.out.ge; have := HW3.out; omega, by have := HE8.out; omega, text_two (blk_alloc (blk_new _ _) _)⟩, by unfold madeRets; rw [if_pos H3.out]; exact ⟨w8.heap.size + 1, rfl, by have := HE8.out; have := HG.out.ge; have := HW3.out; omega, by have := HE8.out; omega, text_two (second w8 _ _ _)⟩, join_below HB8.out (below_alloc (below1 _ _) _)⟩⟩
    · skip
      go_simp
      refine (one_any 97 _).mono ?_
      rintro e u1 ⟨a0, c0, E0, e0, X0, rfl, f1, f2, fX, f3, f4, f5, hb⟩
      have ST := Aside0.mk hb
      have G8 : Aside0 (w4.heap.size ≤ a0) := ⟨Nat.le_trans HLW.out.size f4⟩
      have HLW := Aside0.mk (join_below HLW.out ST.out)
      have F0 := Aside0.mk f2
      have FE := Aside0.mk (And.intro f1 f3)
      clear f1 f2 fX f3 f4 f5 hb
      refine hK _ _ ⟨⟨_, HLW.out⟩, rfl⟩ ?_
      clear hK K ST
      refine Ord.allL2 (i := 4) (j := 9) (by as_aux_lemma => kernel_rfl) (by rfl) (by rfl) (fun K hK => ?_) (fun K hK => ?_)
      · skip
        go_simp
        obtain ⟨u2, hv⟩ : ∃ x, u1.alloc (.cells #[.int .i64 2, .slice (some ⟨a1, 0, none⟩) 1 c1, .slice A2 0 c2, .int .i64 2, .slice (some ⟨a1, 0, none⟩) 1 c1, .slice A2 0 c2] 48) = x := ⟨_, rfl⟩
        rw [hv]
        obtain ⟨b4, hg⟩ : ∃ x, u1.heap.size = x := ⟨_, rfl⟩
        rw [hg]
        have K4 : Aside0 (u2.heap[b4]? = some (.cells #[.int .i64 2, .slice (some ⟨a1, 0, none⟩) 1 c1, .slice A2 0 c2, .int .i64 2, .slice (some ⟨a1, 0, none⟩) 1 c1, .slice A2 0 c2] 48 (0, 0))) := ⟨by rw [← hv, ← hg]; exact blk_new _ _⟩
        have ST : Aside0 (Below u1.heap.size u1 u2) := ⟨hv ▸ below1 _ _⟩
        have G4 : Aside0 (w4.heap.size ≤ b4) := ⟨hg ▸ HLW.out.size⟩
        clear hv hg
        have HLW := Aside0.mk (join_below HLW.out ST.out)
        have F0 := Aside0.mk (Kd.F_below F0.out ST.out)
        refine hK _ _ ⟨⟨_, HLW.out⟩, rfl⟩ ?_
        clear hK K ST
        ((refine Ord.takeL (i := 5) (by rfl) (by as_aux_lemma => kernel_rfl) ?_ ?_ ?_); (focus first | exact fun _ _ _ _ h => h | exact fun _ _ _ _ h => HPQ.out _ _ _ _ (by rfl) h); (focus exact ⟨⟨_, HLW.out⟩, rfl⟩); intro K hK; go_simp; (with_reducible refine hK _ ?_); clear hK K)
        ((refine Ord.takeL (i := 6) (by rfl) (by as_aux_lemma => kernel_rfl) ?_ ?_ ?_); (focus first | exact fun _ _ _ _ h => h | exact fun _ _ _ _ h => HPQ.out _ _ _ _ (by rfl) h); (focus exact ⟨⟨_, HLW.out⟩, rfl⟩); intro K hK; go_simp; (with_reducible refine hK _ ?_); clear hK K)
        refine Ord.allL1 (i := 9) (by as_aux_lemma => kernel_rfl) (by rfl) (fun K hK => ?_)
        go_simp
        obtain ⟨u3, hv⟩ : ∃ x, u2.alloc (.cells #[.int .i64 2, .slice (some ⟨b1, 0, none⟩) 1 d1, .slice B2 0 d2, .int .i64 2, .slice (some ⟨a0, 0, none⟩) 1 c0, .slice E0 0 e0] 48) = x := ⟨_, rfl⟩
        rw [hv]
        obtain ⟨b9, hg⟩ : ∃ x, u2.heap.size = x := ⟨_, rfl⟩
        rw [hg]
        have K9 : Aside0 (u3.heap[b9]? = some (.cells #[.int .i64 2, .slice (some ⟨b1, 0, none⟩) 1 d1, .slice B2 0 d2, .int .i64 2, .slice (some ⟨a0, 0, none⟩) 1 c0, .slice E0 0 e0] 48 (0, 0))) := ⟨by rw [← hv, ← hg]; exact blk_new _ _⟩
        have ST : Aside0 (Below u2.heap.size u2 u3) := ⟨hv ▸ below1 _ _⟩
        have G9 : Aside0 (w4.heap.size ≤ b9) := ⟨hg ▸ HLW.out.size⟩
        clear hv hg
        have HLW := Aside0.mk (join_below HLW.out ST.out)
        have F0 := Aside0.mk (Kd.F_below F0.out ST.out)
        have K4 := Aside0.mk (blk_below K4.out ST.out)
        refine hK _ _ ⟨⟨_, HLW.out⟩, rfl⟩ ?_
        clear hK K ST
        ((refine Ord.takeL (i := 10) (by rfl) (by as_aux_lemma => kernel_rfl) ?_ ?_ ?_); (focus first | exact fun _ _ _ _ h => h | exact fun _ _ _ _ h => HPQ.out _ _ _ _ (by rfl) h); (focus exact ⟨⟨_, HLW.out⟩, rfl⟩); intro K hK; go_simp; (with_reducible refine hK _ ?_); clear hK K)
        ((refine Ord.takeL (i := 11) (by rfl) (by as_aux_lemma => kernel_rfl) ?_ ?_ ?_); (focus first | exact fun _ _ _ _ h => h | exact fun _ _ _ _ h => HPQ.out _ _ _ _ (by rfl) h); (focus exact ⟨⟨_, HLW.out⟩, rfl⟩); intro K hK; go_simp; (with_reducible refine hK _ ?_); clear hK K)
        refine Ord.allL1 (i := 12) (by as_aux_lemma => kernel_rfl) (by rfl) (fun K hK => ?_)
        go_simp
        obtain ⟨u4, hv⟩ : ∃ x, u3.alloc (.cells #[.string ⟨#[112]⟩, .int .i64 1, .int .i64 5, .int .i64 3, .slice none 0 0, .slice (some ⟨b4, 0, none⟩) 2 2, .string ⟨#[113]⟩, .int .i64 2, .int .i64 6, .int .i64 3, .slice none 0 0, .slice (some ⟨b9, 0, none⟩) 2 2] 50) = x := ⟨_, rfl⟩
        rw [hv]
        obtain ⟨b12, hg⟩ : ∃ x, u3.heap.size = x := ⟨_, rfl⟩
        rw [hg]
        have K12 : Aside0 (u4.heap[b12]? = some (.cells #[.string ⟨#[112]⟩, .int .i64 1, .int .i64 5, .int .i64 3, .slice none 0 0, .slice (some ⟨b4, 0, none⟩) 2 2, .string ⟨#[113]⟩, .int .i64 2, .int .i64 6, .int .i64 3, .slice none 0 0, .slice (some ⟨b9, 0, none⟩) 2 2] 50 (0, 0))) := ⟨by rw [← hv, ← hg]; exact blk_new _ _⟩
        have ST : Aside0 (Below u3.heap.size u3 u4) := ⟨hv ▸ below1 _ _⟩
        have G12 : Aside0 (w4.heap.size ≤ b12) := ⟨hg ▸ HLW.out.size⟩
        clear hv hg
        have HLW := Aside0.mk (join_below HLW.out ST.out)
        have F0 := Aside0.mk (Kd.F_below F0.out ST.out)
        have K4 := Aside0.mk (blk_below K4.out ST.out)
        have K9 := Aside0.mk (blk_below K9.out ST.out)
        refine hK _ _ ⟨⟨_, HLW.out⟩, rfl⟩ ?_
        clear hK K ST
        have BB := Aside0.mk (join_below (join_below HG.out.b HB4.out) HLW.out)
        have R1 : Aside0 (Kd.F k48 u4 (fun q => q = b4 ∨ q = a1) (some ⟨b4, 0, none⟩) 2 [oneT 99, oneT 99]) := ⟨by have h := k48_mkF u4 (fun q => q = a1) (oneT 99) H1.out.1 (Kd.F_below (Kd.F_below H1.out.2.1 HB12.out) (join_below HB3.out BB.out)) (Nat.zero_le c2) (re_noneF (fun _ => re_none H1.out.2.2.2)); exact f_two K4.out rfl h h (fun q h => h) (fun q h => h)⟩
        have R2 : Aside0 (Kd.F k48 u4 (fun q => q = b9 ∨ (q = b1 ∨ q = a0)) (some ⟨b9, 0, none⟩) 2 [oneT 100, oneT 97]) := ⟨by have h := k48_mkF u4 (fun q => q = b1) (oneT 100) H2.out.1 (Kd.F_below H2.out.2.1 (join_below HB3.out BB.out)) (Nat.zero_le d2) (re_noneF (fun _ => re_none H2.out.2.2.2)); have h' := k48_mkF u4 (fun q => q = a0) (oneT 97) FE.out.1 F0.out (Nat.zero_le e0) (re_noneF (fun _ => re_none FE.out.2)); exact f_two K9.out rfl h h' (fun q h => Or.inl h) (fun q h => Or.inr h)⟩
        have T1 : Aside0 (Kd.FK kTok u4 (fun q => q = b4 ∨ q = a1) ⟨⟨#[112]⟩, 1, 5, ⟨3, [], [oneT 99, oneT 99]⟩⟩ [.string ⟨#[112]⟩, .int .i64 1, .int .i64 5, .int .i64 3, .slice none 0 0, .slice (some ⟨b4, 0, none⟩) 2 2]) := ⟨k50_mkF u4 _ ⟨⟨#[112]⟩, 1, 5, ⟨3, [], [oneT 99, oneT 99]⟩⟩ (show 0 ≤ 0 from Nat.le_refl _) (Kd.F_nil _ _ _) (show 2 ≤ 2 from Nat.le_refl _) R1.out⟩
        have T2 : Aside0 (Kd.FK kTok u4 (fun q => q = b9 ∨ (q = b1 ∨ q = a0)) ⟨⟨#[113]⟩, 2, 6, ⟨3, [], [oneT 100, oneT 97]⟩⟩ [.string ⟨#[113]⟩, .int .i64 2, .int .i64 6, .int .i64 3, .slice none 0 0, .slice (some ⟨b9, 0, none⟩) 2 2]) := ⟨k50_mkF u4 _ ⟨⟨#[113]⟩, 2, 6, ⟨3, [], [oneT 100, oneT 97]⟩⟩ (show 0 ≤ 0 from Nat.le_refl _) (Kd.F_nil _ _ _) (show 2 ≤ 2 from Nat.le_refl _) R2.out⟩
        have HPQ := Aside0.mk (f_two (okB := fun q => (q = b4 ∨ q = a1) ∨ (q = b9 ∨ (q = b1 ∨ q = a0))) K12.out rfl T1.out T2.out (fun q h => Or.inl h) (fun q h => Or.inr h))
        have HTT := Aside0.mk (Kd.N_F (Kd.N_below HGN.out (join_below HB4.out HLW.out)))
        refine Ord.allL1 (i := 13) (by as_aux_lemma => kernel_rfl) (by rfl) (fun K hK => ?_)
        refine n_append_full kTok (w0 := W) W.heap.size (by rfl) (.tmp 35) (.tmp 46) 23 50 (.agg #[.string ⟨#[]⟩, .int .i64 0, .int .i64 0, .int .i64 0, .slice none 0 0, .slice none 0 0]) 88 rfl Tryd.underlying23 (by as_aux_lemma => kernel_rfl) rfl (by decide) (by decide) madeT tokPQ ⟨gR, 0, none⟩ ⟨b12, 0, none⟩ 4 2 2 (fun k => W.heap.size < k ∧ k ≠ gG) (fun k => W.heap.size < k ∧ k ≠ gG) (fun q => q = b12 ∨ ((q = b4 ∨ q = a1) ∨ (q = b9 ∨ (q = b1 ∨ q = a0)))) rfl rfl HTT.out HPQ.out (by decide) (fun q h => h) (fun q hq => ?hX) (fun q hq => ?hF) (join_below (join_below HB2.out HB3.out) BB.out) ?hS (by decide) ?_
        case hX => have h1 := G4.out; have h2 := G8.out; have h3 := G9.out; have h4 := G12.out; have h5 := HGL.out; have h6 := N1.out; have h7 := N2.out; have h8 := HG.out.ge; have h9 := HAB.out; have h10 := HW3.out; rcases hq with hq | (hq | hq) | hq | hq | hq <;> (subst hq; exact ⟨by omega, by omega⟩)
        case hF => have h1 := HLW.out.size; have h5 := HGL.out; have h10 := HW3.out; have h8 := HG.out.ge; exact ⟨by omega, by omega⟩
        case hS => have h1 := HLW.out.size; have h5 := HGL.out; have h10 := HW3.out; have h8 := HG.out.ge; omega
        intro v9 w9 hN hB hgr hat
        obtain ⟨A9, c9, hv9⟩ := Kd.N_slice hN
        subst hv9
        have HN9 := Aside0.mk hN
        have HLW := Aside0.mk (join_below HLW.out (Below.grown (Below.refl _ _) hgr (Nat.le_refl _) (fun k hk => by cases hk)))
        clear hN hB hgr hat
        refine hK _ _ ⟨⟨_, HLW.out⟩, rfl⟩ ?_
        clear hK K
        ((refine Ord.takeL (i := 14) (by rfl) (by as_aux_lemma => kernel_rfl) ?_ ?_ ?_); (focus first | exact fun _ _ _ _ h => h | exact fun _ _ _ _ h => HPQ.out _ _ _ _ (by rfl) h); (focus exact ⟨⟨_, HLW.out⟩, rfl⟩); intro K hK; go_simp; (with_reducible refine hK _ ?_); clear hK K)
        have y0 : World.cell? w9 ⟨gG, 0, none⟩ = some (.slice (some ⟨gR, 0, none⟩) 4 4) := (blk_cell (blk_below HGB.out HLW.out) 0).trans rfl
        have z0 := blk_frozen (blk_below HGB.out HLW.out) 0
        refine Ord.lastL (by as_aux_lemma => kernel_rfl) (by rfl) (by decide) (fun K hK => ?_)
        go_simp
        clear y0 z0
        refine hK _ _ ?_
        clear hK K
        obtain ⟨w8, hw8⟩ : ∃ x, w9.setCell ⟨gG, 0, none⟩ (.slice A9 (madeT.length + tokPQ.length) c9) = x := ⟨_, rfl⟩
        have HB8 : Aside0 (Below w3.heap.size w3 w8) := ⟨hw8 ▸ (join_below (join_below HG.out.b HB4.out) HLW.out).setCell HG.out.ge _⟩
        have HK8 : Aside0 (w8.heap[gG]? = some (.cells #[.slice A9 (madeT.length + tokPQ.length) c9, .slice none 0 0] 26 (0, 0))) := ⟨hw8 ▸ blk_put (blk_below HGB.out HLW.out) 0 _ rfl⟩
        have HN8 : Aside0 (Kd.N kTok 50 w8 W.heap.size (fun k => W.heap.size < k ∧ k ≠ gG) (.slice A9 (madeT.length + tokPQ.length) c9) (madeT ++ tokPQ)) := ⟨hw8 ▸ Kd.N_far (p := ⟨gG, 0, none⟩) (List.length_append ▸ HN9.out) (fun q hq => hq.2) _⟩
        have HE8 : Aside0 (gG < w8.heap.size) := ⟨blk_lt HK8.out⟩
        rw [hw8]
        clear hw8
        refine wpAnyH_done (by as_aux_lemma => kernel_rfl) ?_ _
        go_wp2
        go_meet
        case rel => exact ⟨⟨⟨_, _, _, blk_below HK8.out (below_alloc (below1 _ _) _), by unfold madeTs; rw [if_pos H3.out]; exact Kd.N_below HN8.out (below_alloc (below1 _ _) _)⟩, HG.out.ge, by unfold madeCalls; rw [if_pos H3.out]; exact ⟨w8.heap.size, rfl, by have := HE8.out; have := HG.out.ge; have := HW3.out; omega, by have := HE8.out; omega, text_two (blk_alloc (blk_new _ _) _)⟩, by unfold madeRets; rw [if_pos H3.out]; exact ⟨w8.heap.size + 1, rfl, by have := HE8.out; have := HG.out.ge; have := HW3.out; omega, by have := HE8.out; omega, text_two (second w8 _ _ _)⟩, join_below HB8.out (below_alloc (below1 _ _) _)⟩⟩
      · skip
        go_simp
        obtain ⟨u2, hv⟩ : ∃ x, u1.alloc (.cells #[.int .i64 2, .slice (some ⟨b1, 0, none⟩) 1 d1, .slice B2 0 d2, .int .i64 2, .slice (some ⟨a0, 0, none⟩) 1 c0, .slice E0 0 e0] 48) = x := ⟨_, rfl⟩
        rw [hv]
        obtain ⟨b9, hg⟩ : ∃ x, u1.heap.size = x := ⟨_, rfl⟩
        rw [hg]
        have K9 : Aside0 (u2.heap[b9]? = some (.cells #[.int .i64 2, .slice (some ⟨b1, 0, none⟩) 1 d1, .slice B2 0 d2, .int .i64 2, .slice (some ⟨a0, 0, none⟩) 1 c0, .slice E0 0 e0] 48 (0, 0))) := ⟨by rw [← hv, ← hg]; exact blk_new _ _⟩
        have ST : Aside0 (Below u1.heap.size u1 u2) := ⟨hv ▸ below1 _ _⟩
        have G9 : Aside0 (w4.heap.size ≤ b9) := ⟨hg ▸ HLW.out.size⟩
        clear hv hg
        have HLW := Aside0.mk (join_below HLW.out ST.out)
        have F0 := Aside0.mk (Kd.F_below F0.out ST.out)
        refine hK _ _ ⟨⟨_, HLW.out⟩, rfl⟩ ?_
        clear hK K ST
        ((refine Ord.takeL (i := 10) (by rfl) (by as_aux_lemma => kernel_rfl) ?_ ?_ ?_); (focus first | exact fun _ _ _ _ h => h | exact fun _ _ _ _ h => HPQ.out _ _ _ _ (by rfl) h); (focus exact ⟨⟨_, HLW.out⟩, rfl⟩); intro K hK; go_simp; (with_reducible refine hK _ ?_); clear hK K)
        ((refine Ord.takeL (i := 11) (by rfl) (by as_aux_lemma => kernel_rfl) ?_ ?_ ?_); (focus first | exact fun _ _ _ _ h => h | exact fun _ _ _ _ h => HPQ.out _ _ _ _ (by rfl) h); (focus exact ⟨⟨_, HLW.out⟩, rfl⟩); intro K hK; go_simp; (with_reducible refine hK _ ?_); clear hK K)
        refine Ord.allL1 (i := 4) (by as_aux_lemma => kernel_rfl) (by rfl) (fun K hK => ?_)
        go_simp
        obtain ⟨u3, hv⟩ : ∃ x, u2.alloc (.cells #[.int .i64 2, .slice (some ⟨a1, 0, none⟩) 1 c1, .slice A2 0 c2, .int .i64 2, .slice (some ⟨a1, 0, none⟩) 1 c1, .slice A2 0 c2] 48) = x := ⟨_, rfl⟩
        rw [hv]
        obtain ⟨b4, hg⟩ : ∃ x, u2.heap.size = x := ⟨_, rfl⟩
        rw [hg]
        have K4 : Aside0 (u3.heap[b4]? = some (.cells #[.int .i64 2, .slice (some ⟨a1, 0, none⟩) 1 c1, .slice A2 0 c2, .int .i64 2, .slice (some ⟨a1, 0, none⟩) 1 c1, .slice A2 0 c2] 48 (0, 0))) := ⟨by rw [← hv, ← hg]; exact blk_new _ _⟩
        have ST : Aside0 (Below u2.heap.size u2 u3) := ⟨hv ▸ below1 _ _⟩
        have G4 : Aside0 (w4.heap.size ≤ b4) := ⟨hg ▸ HLW.out.size⟩
        clear hv hg
        have HLW := Aside0.mk (join_below HLW.out ST.out)
        have F0 := Aside0.mk (Kd.F_below F0.out ST.out)
        have K9 := Aside0.mk (blk_below K9.out ST.out)
        refine hK _ _ ⟨⟨_, HLW.out⟩, rfl⟩ ?_
        clear hK K ST
        ((refine Ord.takeL (i := 5) (by rfl) (by as_aux_lemma => kernel_rfl) ?_ ?_ ?_); (focus first | exact fun _ _ _ _ h => h | exact fun _ _ _ _ h => HPQ.out _ _ _ _ (by rfl) h); (focus exact ⟨⟨_, HLW.out⟩, rfl⟩); intro K hK; go_simp; (with_reducible refine hK _ ?_); clear hK K)
        ((refine Ord.takeL (i := 6) (by rfl) (by as_aux_lemma => kernel_rfl) ?_ ?_ ?_); (focus first | exact fun _ _ _ _ h => h | exact fun _ _ _ _ h => HPQ.out _ _ _ _ (by rfl) h); (focus exact ⟨⟨_, HLW.out⟩, rfl⟩); intro K hK; go_simp; (with_reducible refine hK _ ?_); clear hK K)
        refine Ord.allL1 (i := 12) (by as_aux_lemma => kernel_rfl) (by rfl) (fun K hK => ?_)
        go_simp
        obtain ⟨u4, hv⟩ : ∃ x, u3.alloc (.cells #[.string ⟨#[112]⟩, .int .i64 1, .int .i64 5, .int .i64 3, .slice none 0 0, .slice (some ⟨b4, 0, none⟩) 2 2, .string ⟨#[113]⟩, .int .i64 2, .int .i64 6, .int .i64 3, .slice none 0 0, .slice (some ⟨b9, 0, none⟩) 2 2] 50) = x := ⟨_, rfl⟩
        rw [hv]
        obtain ⟨b12, hg⟩ : ∃ x, u3.heap.size = x := ⟨_, rfl⟩
        rw [hg]
        have K12 : Aside0 (u4.heap[b12]? = some (.cells #[.string ⟨#[112]⟩, .int .i64 1, .int .i64 5, .int .i64 3, .slice none 0 0, .slice (some ⟨b4, 0, none⟩) 2 2, .string ⟨#[113]⟩, .int .i64 2, .int .i64 6, .int .i64 3, .slice none 0 0, .slice (some ⟨b9, 0, none⟩) 2 2] 50 (0, 0))) := ⟨by rw [← hv, ← hg]; exact blk_new _ _⟩
        have ST : Aside0 (Below u3.heap.size u3 u4) := ⟨hv ▸ below1 _ _⟩
        have G12 : Aside0 (w4.heap.size ≤ b12) := ⟨hg ▸ HLW.out.size⟩
        clear hv hg
        have HLW := Aside0.mk (join_below HLW.out ST.out)
        have F0 := Aside0.mk (Kd.F_below F0.out ST.out)
        have K9 := Aside0.mk (blk_below K9.out ST.out)
        have K4 := Aside0.mk (blk_below K4.out ST.out)
        refine hK _ _ ⟨⟨_, HLW.out⟩, rfl⟩ ?_
        clear hK K ST
        have BB := Aside0.mk (join_below (join_below HG.out.b HB4.out) HLW.out)
        have R1 : Aside0 (Kd.F k48 u4 (fun q => q = b4 ∨ q = a1) (some ⟨b4, 0, none⟩) 2 [oneT 99, oneT 99]) := ⟨by have h := k48_mkF u4 (fun q => q = a1) (oneT 99) H1.out.1 (Kd.F_below (Kd.F_below H1.out.2.1 HB12.out) (join_below HB3.out BB.out)) (Nat.zero_le c2) (re_noneF (fun _ => re_none H1.out.2.2.2)); exact f_two K4.out rfl h h (fun q h => h) (fun q h => h)⟩
        have R2 : Aside0 (Kd.F k48 u4 (fun q => q = b9 ∨ (q = b1 ∨ q = a0)) (some ⟨b9, 0, none⟩) 2 [oneT 100, oneT 97]) := ⟨by have h := k48_mkF u4 (fun q => q = b1) (oneT 100) H2.out.1 (Kd.F_below H2.out.2.1 (join_below HB3.out BB.out)) (Nat.zero_le d2) (re_noneF (fun _ => re_none H2.out.2.2.2)); have h' := k48_mkF u4 (fun q => q = a0) (oneT 97) FE.out.1 F0.out (Nat.zero_le e0) (re_noneF (fun _ => re_none FE.out.2)); exact f_two K9.out rfl h h' (fun q h => Or.inl h) (fun q h => Or.inr h)⟩
        have T1 : Aside0 (Kd.FK kTok u4 (fun q => q = b4 ∨ q = a1) ⟨⟨#[112]⟩, 1, 5, ⟨3, [], [oneT 99, oneT 99]⟩⟩ [.string ⟨#[112]⟩, .int .i64 1, .int .i64 5, .int .i64 3, .slice none 0 0, .slice (some ⟨b4, 0, none⟩) 2 2]) := ⟨k50_mkF u4 _ ⟨⟨#[112]⟩, 1, 5, ⟨3, [], [oneT 99, oneT 99]⟩⟩ (show 0 ≤ 0 from Nat.le_refl _) (Kd.F_nil _ _ _) (show 2 ≤ 2 from Nat.le_refl _) R1.out⟩
        have T2 : Aside0 (Kd.FK kTok u4 (fun q => q = b9 ∨ (q = b1 ∨ q = a0)) ⟨⟨#[113]⟩, 2, 6, ⟨3, [], [oneT 100, oneT 97]⟩⟩ [.string ⟨#[113]⟩, .int .i64 2, .int .i64 6, .int .i64 3, .slice none 0 0, .slice (some ⟨b9, 0, none⟩) 2 2]) := ⟨k50_mkF u4 _ ⟨⟨#[113]⟩, 2, 6, ⟨3, [], [oneT 100, oneT 97]⟩⟩ (show 0 ≤ 0 from Nat.le_refl _) (Kd.F_nil _ _ _) (show 2 ≤ 2 from Nat.le_refl _) R2.out⟩
        have HPQ := Aside0.mk (f_two (okB := fun q => (q = b4 ∨ q = a1) ∨ (q = b9 ∨ (q = b1 ∨ q = a0))) K12.out rfl T1.out T2.out (fun q h => Or.inl h) (fun q h => Or.inr h))
        have HTT := Aside0.mk (Kd.N_F (Kd.N_below HGN.out (join_below HB4.out HLW.out)))
        refine Ord.allL1 (i := 13) (by as_aux_lemma => kernel_rfl) (by rfl) (fun K hK => ?_)
        refine n_append_full kTok (w0 := W) W.heap.size (by rfl) (.tmp 35) (.tmp 46) 23 50 (.agg #[.string ⟨#[]⟩, .int .i64 0, .int .i64 0, .int .i64 0, .slice none 0 0, .slice none 0 0]) 88 rfl Tryd.underlying23 (by as_aux_lemma => kernel_rfl) rfl (by decide) (by decide) madeT tokPQ ⟨gR, 0, none⟩ ⟨b12, 0, none⟩ 4 2 2 (fun k => W.heap.size < k ∧ k ≠ gG) (fun k => W.heap.size < k ∧ k ≠ gG) (fun q => q = b12 ∨ ((q = b4 ∨ q = a1) ∨ (q = b9 ∨ (q = b1 ∨ q = a0)))) rfl rfl HTT.out HPQ.out (by decide) (fun q h => h) (fun q hq => ?hX) (fun q hq => ?hF) (join_below (join_below HB2.out HB3.out) BB.out) ?hS (by decide) ?_
        case hX => have h1 := G4.out; have h2 := G8.out; have h3 := G9.out; have h4 := G12.out; have h5 := HGL.out; have h6 := N1.out; have h7 := N2.out; have h8 := HG.out.ge; have h9 := HAB.out; have h10 := HW3.out; rcases hq with hq | (hq | hq) | hq | hq | hq <;> (subst hq; exact ⟨by omega, by omega⟩)
        case hF => have h1 := HLW.out.size; have h5 := HGL.out; have h10 := HW3.out; have h8 := HG.out.ge; exact ⟨by omega, by omega⟩
        case hS => have h1 := HLW.out.size; have h5 := HGL.out; have h10 := HW3.out; have h8 := HG.out.ge; omega
        intro v9 w9 hN hB hgr hat
        obtain ⟨A9, c9, hv9⟩ := Kd.N_slice hN
        subst hv9
        have HN9 := Aside0.mk hN
        have HLW := Aside0.mk (join_below HLW.out (Below.grown (Below.refl _ _) hgr (Nat.le_refl _) (fun k hk => by cases hk)))
        clear hN hB hgr hat
        refine hK _ _ ⟨⟨_, HLW.out⟩, rfl⟩ ?_
        clear hK K
        ((refine Ord.takeL (i := 14) (by rfl) (by as_aux_lemma => kernel_rfl) ?_ ?_ ?_); (focus first | exact fun _ _ _ _ h => h | exact fun _ _ _ _ h => HPQ.out _ _ _ _ (by rfl) h); (focus exact ⟨⟨_, HLW.out⟩, rfl⟩); intro K hK; go_simp; (with_reducible refine hK _ ?_); clear hK K)
        have y0 : World.cell? w9 ⟨gG, 0, none⟩ = some (.slice (some ⟨gR, 0, none⟩) 4 4) := (blk_cell (blk_below HGB.out HLW.out) 0).trans rfl
        have z0 := blk_frozen (blk_below HGB.out HLW.out) 0
        refine Ord.lastL (by as_aux_lemma => kernel_rfl) (by rfl) (by decide) (fun K hK => ?_)
        go_simp
        clear y0 z0
        refine hK _ _ ?_
        clear hK K
        obtain ⟨w8, hw8⟩ : ∃ x, w9.setCell ⟨gG, 0, none⟩ (.slice A9 (madeT.length + tokPQ.length) c9) = x := ⟨_, rfl⟩
        have HB8 : Aside0 (Below w3.heap.size w3 w8) := ⟨hw8 ▸ (join_below (join_below HG.out.b HB4.out) HLW.out).setCell HG.out.ge _⟩
        have HK8 : Aside0 (w8.heap[gG]? = some (.cells #[.slice A9 (madeT.length + tokPQ.length) c9, .slice none 0 0] 26 (0, 0))) := ⟨hw8 ▸ blk_put (blk_below HGB.out HLW.out) 0 _ rfl⟩
        have HN8 : Aside0 (Kd.N kTok 50 w8 W.heap.size (fun k => W.heap.size < k ∧ k ≠ gG) (.slice A9 (madeT.length + tokPQ.length) c9) (madeT ++ tokPQ)) := ⟨hw8 ▸ Kd.N_far (p := ⟨gG, 0, none⟩) (List.length_append ▸ HN9.out) (fun q hq => hq.2) _⟩
        have HE8 : Aside0 (gG < w8.heap.size) := ⟨blk_lt HK8.out⟩
        rw [hw8]
        clear hw8
        refine wpAnyH_done (by as_aux_lemma => kernel_rfl) ?_ _
        go_wp2
        go_meet
        case rel => exact ⟨⟨⟨_, _, _, blk_below HK8.out (below_alloc (below1 _ _) _), by unfold madeTs; rw [if_pos H3.out]; exact Kd.N_below HN8.out (below_alloc (below1 _ _) _)⟩, HG.out.ge, by unfold madeCalls; rw [if_pos H3.out]; exact ⟨w8.heap.size, rfl, by have := HE8.out; have := HG.out.ge; have := HW3.out; omega, by have := HE8.out; omega, text_two (blk_alloc (blk_new _ _) _)⟩, by unfold madeRets; rw [if_pos H3.out]; exact ⟨w8.heap.size + 1, rfl, by have := HE8.out; have := HG.out.ge; have := HW3.out; omega, by have := HE8.out; omega, text_two (second w8 _ _ _)⟩, join_below HB8.out (below_alloc (below1 _ _) _)⟩⟩
  · skip
    have e1 : decide (3 < (ls.length : Int)) = false := decide_eq_false (by omega)
    go_wp2
    go_meet
    case rel => exact ⟨⟨⟨_, _, _, HGB.out, by unfold madeTs; rw [if_neg h3]; exact Kd.N_below HGN.out HB4.out⟩, HG.out.ge, by unfold madeCalls; rw [if_neg h3]; exact ⟨b6, rfl, by have := HG.out.b.size; have := HB6.out; have := HW3.out; omega, by have := blk_lt HGB0.out; have := HB6.out; omega, text_one K6.out⟩, by unfold madeRets; rw [if_neg h3]; exact ⟨b6 + 1, rfl, by have := HG.out.b.size; have := HB6.out; have := HW3.out; omega, by have := blk_lt HGB0.out; have := HB6.out; omega, text_one K7.out⟩, join_below HG.out.b HB4.out⟩⟩
 obtain ⟨wH, rfl⟩ : ∃ x, x = wc := ⟨_, rfl⟩
 have HH := hcut
 clear hcut
 obtain ⟨bC, hv6, hc1, hc2, hc3⟩ := HH.out.calls
 obtain ⟨bR, hv7, hr1, hr2, hr3⟩ := HH.out.rets
 subst hv6 hv7
 have HCR := Aside0.mk (And.intro (And.intro hc1 (And.intro hc2 hc3)) (And.intro hr1 (And.intro hr2 hr3)))
 have HCB : Aside0 (bC < wH.heap.size ∧ bR < wH.heap.size) := ⟨txt_lt hc3 (madeCalls_pos _), txt_lt hr3 (madeRets_pos _)⟩
 clear hc1 hc2 hc3 hr1 hr2 hr3
 obtain ⟨A4, n4, c4, hgb, hgn⟩ := HH.out.g
 have HT := Aside0.mk hgn
 have hgbH := Aside0.mk hgb
 have HI0 : Aside0 (MadeI W w3 wH gG A4 n4 c4 0 ls wH) := ⟨⟨⟨none, 0, 0, hgb, Kd.N_nil _ _ _ _ _⟩, fun _ _ _ => rfl, Nat.le_refl _, HH.out.b⟩⟩
 clear hgb hgn
 go_wp2
 go_loopw [8] (fun i w => ∃ m : Nat, i = .int .i64 (m : Int) ∧ m ≤ ls.length ∧ m ≤ 3 ∧ Aside0 (MadeI W w3 wH gG A4 n4 c4 m ls w)) (fun i _ => 3 - (intOf i).toNat)
 case atStart => exact ⟨0, rfl, Nat.zero_le _, Nat.zero_le _, HI0⟩
 case round =>
  obtain ⟨m, rfl, hm1, hm2, HI⟩ := hrel
  by_cases hlt : m < ls.length ∧ m < 3
  · skip
    obtain ⟨g, o, rfl, _, _⟩ := row_cells (Kd.F_now HL.out) (by omega) (by decide)
    obtain ⟨ad, csl, had, _, hFKl, hcl, _⟩ := Kd.F_get HL.out [] (m : Int) (by omega) (by omega)
    obtain rfl := Option.some.inj had
    rw [Int.toNat_natCast] at hFKl hcl
    obtain ⟨l, hl0⟩ : ∃ l, ls.getD m [] = l := ⟨_, rfl⟩
    rw [hl0] at hFKl
    obtain ⟨Al, cl, rfl, hlc, hFl⟩ := Kd.FK_slice_open hFKl
    have hlm : ls[m]? = some l := by rw [← hl0, List.getD_eq_getElem?_getD, List.getElem?_eq_getElem hlt.1]; rfl
    have HLM := Aside0.mk hlm
    have HFL := Aside0.mk hFl
    have HLC := Aside0.mk hlc
    have HM := Aside0.mk hlt
    have HBR := Aside0.mk (join_below (join_below HB2.out HB3.out) HI.out.b)
    have y0 : World.cell? wr ⟨g, o + m, none⟩ = some (.slice Al l.length cl) := by have h := cell_after HBR.out (hcl 0 _ rfl); rwa [Nat.add_zero, show m * (Kd.slice 3 (Kd.int .i64)).sz = m from Nat.mul_one m, add_at] at h
    have e1 : decide (m < ls.length) = true := decide_eq_true hlt.1
    have e2 : decide ((m : Int) < 3) = true := decide_eq_true (by omega)
    have hl63 : l.length ≤ 9223372036854775807 := Kd.F_max hFl
    have hl20 : l.length ≤ 1048576 := HSM.out l (List.mem_of_getElem? hlm)
    clear hlm hFl hlc hl0 hFKl hcl
    by_cases h2 : l.length < 2
    · as_aux_lemma =>
      have e3 : decide ((l.length : Int) < 2) = true := decide_eq_true (by omega)
      have HI2 : Aside0 (MadeI W w3 wH gG A4 n4 c4 (m + 1) ls wr) := ⟨⟨by rw [rulesTo_skip HLM.out h2]; exact HI.out.g, HI.out.k, HI.out.s, HI.out.b⟩⟩
      clear h2
      go_wp2
      go_roundw
      case rel => exact ⟨m + 1, by go_num, by have := HM.out; omega, by have := HM.out; omega, HI2⟩
      case measure => have := HM.out; simp [intOf]; omega
    · skip
      have e3 : decide ((l.length : Int) < 2) = false := decide_eq_false (by omega)
      obtain ⟨k, hk⟩ : ∃ k, l[0]? = some k := ⟨_, List.getElem?_eq_getElem (by omega)⟩
      obtain ⟨g1, o1, rfl, _, hcell⟩ := row_cells (Kd.F_now HFL.out) (by omega) (by decide)
      obtain ⟨cs, hcl, hK, hcc⟩ := hcell 0 k hk
      have hck : cs = [.int .i64 k] := hK
      subst hck
      have y1 : World.cell? wr ⟨g1, o1, none⟩ = some (.int .i64 k) := by have h := cell_after HBR.out (hcc 0 _ rfl); rwa [Nat.zero_mul, Nat.add_zero] at h
      have HK := Aside0.mk hk
      have H2 := Aside0.mk h2
      have hm10 : IntKind.i64.wrap (10 + (m : Int)) = 10 + (m : Int) := by rw [IntKind.wrap_i64]; omega
      have hl0' : (0 : Int) < (l.length : Int) := by omega
      clear hcell hcl hK hcc hk h2
      have hu2 : (IntKind.u64.wrap k).tdiv 2 = IntKind.u64.wrap k / 2 := Int.tdiv_eq_ediv_of_nonneg (wrap_u0 k).1
      go_upto_block 2 with (fail)
      rw [stepsN_eq]
      obtain ⟨sn, hsn⟩ : ∃ x, stepsN k = x := ⟨_, rfl⟩
      rw [hsn]
      have HSN := Aside0.mk hsn
      have hsn2 : 1 ≤ sn ∧ sn ≤ 2 := hsn ▸ stepsN_le k
      obtain ⟨gr, hgr⟩ : ∃ x, wr.heap.size = x := ⟨_, rfl⟩
      obtain ⟨wJ, hwJ⟩ : ∃ x, wr.alloc (.cells #[.int .i64 (10 + (m : Int)), .bool (bits .and .i64 k 1 == 1), .slice none 0 0] 32) = x := ⟨_, rfl⟩
      have HJ0 : Aside0 (MadeS W wH wr gG gr ls.length m l k 0 wJ) := ⟨⟨⟨none, 0, 0, by rw [← hwJ, ← hgr]; exact blk_new _ _, Kd.N_nil _ _ _ _ _⟩, hwJ ▸ below1 _ _⟩⟩
      have HGR := Aside0.mk hgr
      rw [hwJ, hgr]
      have HY0 := Aside0.mk y0
      clear hwJ hgr hsn hm10 hu2 e1 e2 e3 y0 y1 hl0'
      obtain ⟨wI, rfl⟩ : ∃ x, x = wr := ⟨_, rfl⟩
      go_cut [] (fun w' => Aside0 (MadeS W wH wI gG gr ls.length m l k sn w'))
      case first =>
       go_wp2
       go_loopw [12] (fun i w => ∃ j : Nat, i = .int .i64 (j : Int) ∧ j ≤ sn ∧ Aside0 (MadeS W wH wI gG gr ls.length m l k j w)) (fun i _ => sn - (intOf i).toNat)
       case atStart => exact ⟨0, rfl, Nat.zero_le _, HJ0⟩
       case round =>
        obtain ⟨j, rfl, hj, HS⟩ := hrel
        by_cases hjl : j < sn
        · skip
          have e1 : decide ((j : Int) < (sn : Int)) = true := decide_eq_true (by omega)
          obtain ⟨w2, rfl⟩ : ∃ x, x = wr := ⟨_, rfl⟩
          go_upto_region 17 with (fail)
          clear e1
          obtain ⟨p, hp⟩ : ∃ x, madeP abS (madeCalls ls.length) (madeRets ls.length) (numbersOf l sn j) = x := ⟨_, rfl⟩
          have HP : Aside0 (stepOf ls.length l k j = ⟨if 0 < j ∨ freeOf k = true then pickS (madeCalls ls.length) (wrap64 (k.tdiv 4)) else [], p⟩) := ⟨by unfold stepOf; rw [HSN.out, hp]⟩
          have HP0 := Aside0.mk hp
          clear hp
          go_cut [13] (fun v w' => ∃ gS, v = .pointer (some ⟨gS, 0, none⟩) ∧ Aside0 (StepAt w2 bC bR gS none 0 0 p w'))
          case first =>
           have y0 : ∀ p : Later w2, p.wx.cell? ⟨g, o + m, none⟩ = some (.slice (some ⟨g1, o1, none⟩) l.length cl) := fun p => cell_after p.below (cell_after HS.out.b HY0.out)
           have hnb := numbersOf_bound (l := l) (n := sn) (j := j) (by have := H2.out; omega) hsn2.1 hjl
           have hno : numbersOf l sn j = (l.take (1 + (l.length - 1) * (j + 1) / sn)).drop (1 + (l.length - 1) * j / sn) := rfl
           obtain ⟨D, hD⟩ : ∃ x, l.length - 1 = x := ⟨_, rfl⟩
           obtain ⟨J, hJ⟩ : ∃ x, j + 1 = x := ⟨_, rfl⟩
           obtain ⟨E, hE⟩ : ∃ x, D * j = x := ⟨_, rfl⟩
           obtain ⟨E2, hE2⟩ : ∃ x, D * J = x := ⟨_, rfl⟩
           obtain ⟨F, hF⟩ : ∃ x, E / sn = x := ⟨_, rfl⟩
           obtain ⟨F2, hF2⟩ : ∃ x, E2 / sn = x := ⟨_, rfl⟩
           obtain ⟨f, hf⟩ : ∃ x, 1 + F = x := ⟨_, rfl⟩
           obtain ⟨t, ht⟩ : ∃ x, 1 + F2 = x := ⟨_, rfl⟩
           rw [hD, hJ, hE, hE2, hF, hF2, hf, ht] at hnb hno
           have b1 : D ≤ 1048575 ∧ J ≤ 2 := by omega
           have b2 : E ≤ 2097150 := hE ▸ (Nat.mul_le_mul b1.1 (show j ≤ 2 by omega))
           have b3 : E2 ≤ 2097150 := hE2 ▸ (Nat.mul_le_mul b1.1 b1.2)
           have b4 : F ≤ E := hF ▸ Nat.div_le_self _ _
           have b5 : F2 ≤ E2 := hF2 ▸ Nat.div_le_self _ _
           have kw : ∀ x : Nat, x ≤ 4000000 → IntKind.i64.wrap (x : Int) = (x : Int) := fun x hx => by rw [IntKind.wrap_i64]; omega
           have k0 : IntKind.i64.wrap ((l.length : Int) - 1) = (D : Int) := by rw [IntKind.wrap_i64]; omega
           have k1 : IntKind.i64.wrap ((D : Int) * (j : Int)) = (E : Int) := by rw [← Int.natCast_mul, hE]; exact kw _ (by omega)
           have k2 : IntKind.i64.wrap ((E : Int) / (sn : Int)) = (F : Int) := by rw [← Int.natCast_ediv, hF]; exact kw _ (by omega)
           have k3 : IntKind.i64.wrap (1 + (F : Int)) = (f : Int) := by rw [IntKind.wrap_i64]; omega
           have k4 : IntKind.i64.wrap ((j : Int) + 1) = (J : Int) := by rw [IntKind.wrap_i64]; omega
           have k5 : IntKind.i64.wrap ((D : Int) * (J : Int)) = (E2 : Int) := by rw [← Int.natCast_mul, hE2]; exact kw _ (by omega)
           have k6 : IntKind.i64.wrap ((E2 : Int) / (sn : Int)) = (F2 : Int) := by rw [← Int.natCast_ediv, hF2]; exact kw _ (by omega)
           have k7 : IntKind.i64.wrap (1 + (F2 : Int)) = (t : Int) := by rw [IntKind.wrap_i64]; omega
           have HNO := Aside0.mk (And.intro hno (And.intro hnb.1 hnb.2))
           have hsn0 : ¬ sn = 0 := by omega
           have hft : f ≤ t := hnb.1
           have htc : t ≤ cl := Nat.le_trans hnb.2 HLC.out
           clear hD hJ hE hE2 hF hF2 hf ht hnb hno b1 b2 b3 b4 b5 kw
           obtain ⟨wd, hwd⟩ : ∃ x, w2.drew = x := ⟨_, rfl⟩
           have HDR : Aside0 (Below w2.heap.size w2 wd) := ⟨hwd ▸ below_drew1 (Below.refl _ _)⟩
           have HLW := HDR
           refine Ord.region_L (S := fun w' => ∃ p : Later w2, w' = p.wx) (L := 34) (by as_aux_lemma => kernel_rfl) ?_
           rw [hwd]
           clear hwd
           ((refine Ord.takeLT (i := 0) (by rfl) (by as_aux_lemma => kernel_rfl) ?_ ?_ ?_); (focus first | exact fun _ _ _ _ h => h | exact fun _ _ _ _ h => HPQ.out _ _ _ _ (by rfl) h); (focus exact ⟨⟨_, HLW.out⟩, rfl⟩); intro K hK; go_simp; (with_reducible refine hK _ ?_); clear hK K)
           ((refine Ord.takeLT (i := 1) (by rfl) (by as_aux_lemma => kernel_rfl) ?_ ?_ ?_); (focus first | exact fun _ _ _ _ h => h | exact fun _ _ _ _ h => HPQ.out _ _ _ _ (by rfl) h); (focus exact ⟨⟨_, HLW.out⟩, rfl⟩); intro K hK; go_simp; (with_reducible refine hK _ ?_); clear hK K)
           ((refine Ord.takeLT (i := 2) (by rfl) (by as_aux_lemma => kernel_rfl) ?_ ?_ ?_); (focus first | exact fun _ _ _ _ h => h | exact fun _ _ _ _ h => HPQ.out _ _ _ _ (by rfl) h); (focus exact ⟨⟨_, HLW.out⟩, rfl⟩); intro K hK; go_simp; (with_reducible refine hK _ ?_); clear hK K)
           ((refine Ord.takeLT (i := 3) (by rfl) (by as_aux_lemma => kernel_rfl) ?_ ?_ ?_); (focus first | exact fun _ _ _ _ h => h | exact fun _ _ _ _ h => HPQ.out _ _ _ _ (by rfl) h); (focus exact ⟨⟨_, HLW.out⟩, rfl⟩); intro K hK; go_simp; (with_reducible refine hK _ ?_); clear hK K)
           ((refine Ord.takeLT (i := 4) (by rfl) (by as_aux_lemma => kernel_rfl) ?_ ?_ ?_); (focus first | exact fun _ _ _ _ h => h | exact fun _ _ _ _ h => HPQ.out _ _ _ _ (by rfl) h); (focus exact ⟨⟨_, HLW.out⟩, rfl⟩); intro K hK; go_simp; (with_reducible refine hK _ ?_); clear hK K)
           ((refine Ord.takeLT (i := 5) (by rfl) (by as_aux_lemma => kernel_rfl) ?_ ?_ ?_); (focus first | exact fun _ _ _ _ h => h | exact fun _ _ _ _ h => HPQ.out _ _ _ _ (by rfl) h); (focus exact ⟨⟨_, HLW.out⟩, rfl⟩); intro K hK; go_simp; (with_reducible refine hK _ ?_); clear hK K)
           ((refine Ord.takeLT (i := 6) (by rfl) (by as_aux_lemma => kernel_rfl) ?_ ?_ ?_); (focus first | exact fun _ _ _ _ h => h | exact fun _ _ _ _ h => HPQ.out _ _ _ _ (by rfl) h); (focus exact ⟨⟨_, HLW.out⟩, rfl⟩); intro K hK; go_simp; (with_reducible refine hK _ ?_); clear hK K)
           ((refine Ord.takeLT (i := 7) (by rfl) (by as_aux_lemma => kernel_rfl) ?_ ?_ ?_); (focus first | exact fun _ _ _ _ h => h | exact fun _ _ _ _ h => HPQ.out _ _ _ _ (by rfl) h); (focus exact ⟨⟨_, HLW.out⟩, rfl⟩); intro K hK; go_simp; (with_reducible refine hK _ ?_); clear hK K)
           ((refine Ord.takeLT (i := 8) (by rfl) (by as_aux_lemma => kernel_rfl) ?_ ?_ ?_); (focus first | exact fun _ _ _ _ h => h | exact fun _ _ _ _ h => HPQ.out _ _ _ _ (by rfl) h); (focus exact ⟨⟨_, HLW.out⟩, rfl⟩); intro K hK; go_simp; (with_reducible refine hK _ ?_); clear hK K)
           ((refine Ord.takeLT (i := 9) (by rfl) (by as_aux_lemma => kernel_rfl) ?_ ?_ ?_); (focus first | exact fun _ _ _ _ h => h | exact fun _ _ _ _ h => HPQ.out _ _ _ _ (by rfl) h); (focus exact ⟨⟨_, HLW.out⟩, rfl⟩); intro K hK; go_simp; (with_reducible refine hK _ ?_); clear hK K)
           ((refine Ord.takeLT (i := 10) (by rfl) (by as_aux_lemma => kernel_rfl) ?_ ?_ ?_); (focus first | exact fun _ _ _ _ h => h | exact fun _ _ _ _ h => HPQ.out _ _ _ _ (by rfl) h); (focus exact ⟨⟨_, HLW.out⟩, rfl⟩); intro K hK; go_simp; (with_reducible refine hK _ ?_); clear hK K)
           ((refine Ord.takeLT (i := 11) (by rfl) (by as_aux_lemma => kernel_rfl) ?_ ?_ ?_); (focus first | exact fun _ _ _ _ h => h | exact fun _ _ _ _ h => HPQ.out _ _ _ _ (by rfl) h); (focus exact ⟨⟨_, HLW.out⟩, rfl⟩); intro K hK; go_simp; (with_reducible refine hK _ ?_); clear hK K)
           ((refine Ord.takeLT (i := 12) (by rfl) (by as_aux_lemma => kernel_rfl) ?_ ?_ ?_); (focus first | exact fun _ _ _ _ h => h | exact fun _ _ _ _ h => HPQ.out _ _ _ _ (by rfl) h); (focus exact ⟨⟨_, HLW.out⟩, rfl⟩); intro K hK; go_simp; (with_reducible refine hK _ ?_); clear hK K)
           ((refine Ord.takeLT (i := 13) (by rfl) (by as_aux_lemma => kernel_rfl) ?_ ?_ ?_); (focus first | exact fun _ _ _ _ h => h | exact fun _ _ _ _ h => HPQ.out _ _ _ _ (by rfl) h); (focus exact ⟨⟨_, HLW.out⟩, rfl⟩); intro K hK; go_simp; (with_reducible refine hK _ ?_); clear hK K)
           ((refine Ord.takeLT (i := 14) (by rfl) (by as_aux_lemma => kernel_rfl) ?_ ?_ ?_); (focus first | exact fun _ _ _ _ h => h | exact fun _ _ _ _ h => HPQ.out _ _ _ _ (by rfl) h); (focus exact ⟨⟨_, HLW.out⟩, rfl⟩); intro K hK; go_simp; (with_reducible refine hK _ ?_); clear hK K)
           ((refine Ord.takeLT (i := 15) (by rfl) (by as_aux_lemma => kernel_rfl) ?_ ?_ ?_); (focus first | exact fun _ _ _ _ h => h | exact fun _ _ _ _ h => HPQ.out _ _ _ _ (by rfl) h); (focus exact ⟨⟨_, HLW.out⟩, rfl⟩); intro K hK; go_simp; (with_reducible refine hK _ ?_); clear hK K)
           ((refine Ord.takeLT (i := 16) (by rfl) (by as_aux_lemma => kernel_rfl) ?_ ?_ ?_); (focus first | exact fun _ _ _ _ h => h | exact fun _ _ _ _ h => HPQ.out _ _ _ _ (by rfl) h); (focus exact ⟨⟨_, HLW.out⟩, rfl⟩); intro K hK; go_simp; (with_reducible refine hK _ ?_); clear hK K)
           ((refine Ord.takeLT (i := 17) (by rfl) (by as_aux_lemma => kernel_rfl) ?_ ?_ ?_); (focus first | exact fun _ _ _ _ h => h | exact fun _ _ _ _ h => HPQ.out _ _ _ _ (by rfl) h); (focus exact ⟨⟨_, HLW.out⟩, rfl⟩); intro K hK; go_simp; (with_reducible refine hK _ ?_); clear hK K)
           ((refine Ord.takeLT (i := 18) (by rfl) (by as_aux_lemma => kernel_rfl) ?_ ?_ ?_); (focus first | exact fun _ _ _ _ h => h | exact fun _ _ _ _ h => HPQ.out _ _ _ _ (by rfl) h); (focus exact ⟨⟨_, HLW.out⟩, rfl⟩); intro K hK; go_simp; (with_reducible refine hK _ ?_); clear hK K)
           ((refine Ord.takeLT (i := 19) (by rfl) (by as_aux_lemma => kernel_rfl) ?_ ?_ ?_); (focus first | exact fun _ _ _ _ h => h | exact fun _ _ _ _ h => HPQ.out _ _ _ _ (by rfl) h); (focus exact ⟨⟨_, HLW.out⟩, rfl⟩); intro K hK; go_simp; (with_reducible refine hK _ ?_); clear hK K)
           ((refine Ord.takeLT (i := 20) (by rfl) (by as_aux_lemma => kernel_rfl) ?_ ?_ ?_); (focus first | exact fun _ _ _ _ h => h | exact fun _ _ _ _ h => HPQ.out _ _ _ _ (by rfl) h); (focus exact ⟨⟨_, HLW.out⟩, rfl⟩); intro K hK; go_simp; (with_reducible refine hK _ ?_); clear hK K)
           ((refine Ord.takeLT (i := 21) (by rfl) (by as_aux_lemma => kernel_rfl) ?_ ?_ ?_); (focus first | exact fun _ _ _ _ h => h | exact fun _ _ _ _ h => HPQ.out _ _ _ _ (by rfl) h); (focus exact ⟨⟨_, HLW.out⟩, rfl⟩); intro K hK; go_simp; (with_reducible refine hK _ ?_); clear hK K)
           ((refine Ord.takeLT (i := 22) (by rfl) (by as_aux_lemma => kernel_rfl) ?_ ?_ ?_); (focus first | exact fun _ _ _ _ h => h | exact fun _ _ _ _ h => HPQ.out _ _ _ _ (by rfl) h); (focus exact ⟨⟨_, HLW.out⟩, rfl⟩); intro K hK; go_simp; (with_reducible refine hK _ ?_); clear hK K)
           ((refine Ord.takeLT (i := 23) (by rfl) (by as_aux_lemma => kernel_rfl) ?_ ?_ ?_); (focus first | exact fun _ _ _ _ h => h | exact fun _ _ _ _ h => HPQ.out _ _ _ _ (by rfl) h); (focus exact ⟨⟨_, HLW.out⟩, rfl⟩); intro K hK; go_simp; (with_reducible refine hK _ ?_); clear hK K)
           ((refine Ord.takeLT (i := 24) (by rfl) (by as_aux_lemma => kernel_rfl) ?_ ?_ ?_); (focus first | exact fun _ _ _ _ h => h | exact fun _ _ _ _ h => HPQ.out _ _ _ _ (by rfl) h); (focus exact ⟨⟨_, HLW.out⟩, rfl⟩); intro K hK; go_simp; (with_reducible refine hK _ ?_); clear hK K)
           ((refine Ord.takeLT (i := 25) (by rfl) (by as_aux_lemma => kernel_rfl) ?_ ?_ ?_); (focus first | exact fun _ _ _ _ h => h | exact fun _ _ _ _ h => HPQ.out _ _ _ _ (by rfl) h); (focus exact ⟨⟨_, HLW.out⟩, rfl⟩); intro K hK; go_simp; (with_reducible refine hK _ ?_); clear hK K)
           ((refine Ord.takeLT (i := 26) (by rfl) (by as_aux_lemma => kernel_rfl) ?_ ?_ ?_); (focus first | exact fun _ _ _ _ h => h | exact fun _ _ _ _ h => HPQ.out _ _ _ _ (by rfl) h); (focus exact ⟨⟨_, HLW.out⟩, rfl⟩); intro K hK; go_simp; (with_reducible refine hK _ ?_); clear hK K)
           ((refine Ord.takeLT (i := 27) (by rfl) (by as_aux_lemma => kernel_rfl) ?_ ?_ ?_); (focus first | exact fun _ _ _ _ h => h | exact fun _ _ _ _ h => HPQ.out _ _ _ _ (by rfl) h); (focus exact ⟨⟨_, HLW.out⟩, rfl⟩); intro K hK; go_simp; (with_reducible refine hK _ ?_); clear hK K)
           ((refine Ord.takeLT (i := 29) (by rfl) (by as_aux_lemma => kernel_rfl) ?_ ?_ ?_); (focus first | exact fun _ _ _ _ h => h | exact fun _ _ _ _ h => HPQ.out _ _ _ _ (by rfl) h); (focus exact ⟨⟨_, HLW.out⟩, rfl⟩); intro K hK; go_simp; (with_reducible refine hK _ ?_); clear hK K)
           ((refine Ord.takeLT (i := 30) (by rfl) (by as_aux_lemma => kernel_rfl) ?_ ?_ ?_); (focus first | exact fun _ _ _ _ h => h | exact fun _ _ _ _ h => HPQ.out _ _ _ _ (by rfl) h); (focus exact ⟨⟨_, HLW.out⟩, rfl⟩); intro K hK; go_simp; (with_reducible refine hK _ ?_); clear hK K)
           clear y0 k0 k1 k2 k3 k4 k5 k6 k7 hsn0
           obtain ⟨AN, hAN⟩ : ∃ x, (if cl = f then (some ⟨g1, o1, none⟩ : Option Addr) else some ⟨g1, o1 + f, none⟩) = x := ⟨_, rfl⟩
           obtain ⟨ks, hks⟩ : ∃ x, numbersOf l sn j = x := ⟨_, rfl⟩
           rw [hks] at HNO
           have hkl : t - f = ks.length := by have h := HNO.out; rw [h.1]; simp; omega
           rw [hAN, hkl]
           have HNF : Aside0 (Kd.F (Kd.int .i64) W okA AN ks.length ks) := ⟨by have h := Kd.F_mid HFL.out HNO.out.2.1 HNO.out.2.2 HLC.out; rw [← HNO.out.1, show f * (Kd.int .i64).sz = f from Nat.mul_one f] at h; rw [← hAN]; by_cases hc : cl = f; (· rw [if_pos hc] at h ⊢; exact h); (· rw [if_neg hc] at h ⊢; rw [Option.map_some, add_at] at h; exact h)⟩
           have hp : madeP abS (madeCalls ls.length) (madeRets ls.length) ks = p := hks ▸ HP0.out
           have HPG : Aside0 (∀ (u : World) (bI : Nat), Below w2.heap.size w2 u → w2.heap.size ≤ bI → u.heap[bI]? = some (.cells #[.string ⟨#[97]⟩, .string ⟨#[98]⟩] 9 (0, 0)) → Calls Tryd.prog 17 #[.slice AN ks.length (cl - f), .slice (some ⟨bI, 0, none⟩) 2 2, .slice (some ⟨bC, 0, none⟩) (madeCalls ls.length).length (madeCalls ls.length).length, .slice (some ⟨bR, 0, none⟩) (madeRets ls.length).length (madeRets ls.length).length] u (PatPost (fun q => q = bI ∨ q = bC ∨ q = bR) p u)) := ⟨by
            intro u bI hb hge hbk
            have hlt := blk_lt hbk
            have hB : Below W.heap.size W u := join_below (join_below HBR.out HS.out.b) hb
            have hin : ∀ (b : Nat) (s : List ByteArray), b ≠ gG → Kd.F Kd.string wH (fun k => k = b) (some ⟨b, 0, none⟩) s.length s → Kd.F Kd.string u (fun k => k = b) (some ⟨b, 0, none⟩) s.length s := fun b s hne h => Kd.F_below (Kd.F_below (Kd.F_step h (fun q ho hl => HI.out.k q hl (by rw [ho]; exact hne))) HS.out.b) hb
            have h := pattern_gen abS (madeCalls ls.length) (madeRets ls.length) (some ⟨bI, 0, none⟩) (some ⟨bC, 0, none⟩) (some ⟨bR, 0, none⟩) 2 (madeCalls ls.length).length (madeRets ls.length).length ks AN (cl - f) (fun q => q = bI ∨ q = bC ∨ q = bR) u (fun q hq => by have h1 := HCB.out; have h2 := HI.out.s; have h3 := HS.out.b.size; have h4 := hb.size; omega) ⟨Kd.F_mono (text_two hbk) (fun q hq => Or.inl hq), Nat.le_refl 2, (by decide)⟩ ⟨Kd.F_mono (hin _ _ HCR.out.1.2.1 HCR.out.1.2.2) (fun q hq => Or.inr (Or.inl hq)), Nat.le_refl _, madeCalls_pos _⟩ ⟨Kd.F_mono (hin _ _ HCR.out.2.2.1 HCR.out.2.2.2) (fun q hq => Or.inr (Or.inr hq)), Nat.le_refl _, madeRets_pos _⟩ (Kd.F_now (Kd.F_below HNF.out hB))
            rw [hp] at h
            exact h⟩
           clear hks hp hkl hAN hft htc
           have HW2 : Aside0 (wH.heap.size ≤ w2.heap.size) := ⟨Nat.le_trans HI.out.s HS.out.b.size⟩
           refine Ord.allL2 (i := 28) (j := 33) (by as_aux_lemma => kernel_rfl) (by rfl) (by rfl) (fun K hK => ?_) (fun K hK => ?_)
           · skip
             go_simp
             obtain ⟨u1_, hv⟩ : ∃ x, wd.alloc (.cells #[.string ⟨#[97]⟩, .string ⟨#[98]⟩] 9) = x := ⟨_, rfl⟩
             rw [hv]
             obtain ⟨b28, hg⟩ : ∃ x, wd.heap.size = x := ⟨_, rfl⟩
             rw [hg]
             have K28 : Aside0 (u1_.heap[b28]? = some (.cells #[.string ⟨#[97]⟩, .string ⟨#[98]⟩] 9 (0, 0))) := ⟨by rw [← hv, ← hg]; exact blk_new _ _⟩
             have ST : Aside0 (Below wd.heap.size wd u1_) := ⟨hv ▸ below1 _ _⟩
             have G28 : Aside0 (w2.heap.size ≤ b28) := ⟨hg ▸ HLW.out.size⟩
             clear hv hg
             have HLW := Aside0.mk (join_below HLW.out ST.out)
             refine hK _ _ ⟨⟨_, HLW.out⟩, rfl⟩ ?_
             clear hK K ST
             refine Ord.allL2 (i := 31) (j := 33) (by as_aux_lemma => kernel_rfl) (by rfl) (by rfl) (fun K hK => ?_) (fun K hK => ?_)
             · skip
               go_simp
               refine (HPG.out u1_ b28 HLW.out G28.out K28.out).mono ?_
               rintro e u2_ ⟨cs, rfl, hFK, hb⟩
               obtain ⟨P2, r2, P3, r3, P4, r4, rfl, _, _, _, _, _, _⟩ := k37_open (Kd.FK_now hFK)
               have FP := Aside0.mk (Kd.FK_bound hFK)
               have ST := Aside0.mk hb
               clear hFK hb
               have K28 := Aside0.mk (blk_below K28.out ST.out)
               have HU31 : Aside0 (w2.heap.size ≤ u1_.heap.size) := ⟨HLW.out.size⟩
               have HLW := Aside0.mk (join_below HLW.out ST.out)
               refine hK _ _ ⟨⟨_, HLW.out⟩, rfl⟩ ?_
               clear hK K ST
               ((refine Ord.takeLT (i := 32) (by rfl) (by as_aux_lemma => kernel_rfl) ?_ ?_ ?_); (focus first | exact fun _ _ _ _ h => h | exact fun _ _ _ _ h => HPQ.out _ _ _ _ (by rfl) h); (focus exact ⟨⟨_, HLW.out⟩, rfl⟩); intro K hK; go_simp; (with_reducible refine hK _ ?_); clear hK K)
               refine Ord.allL1 (i := 33) (by as_aux_lemma => kernel_rfl) (by rfl) (fun K hK => ?_)
               go_simp
               obtain ⟨u3_, hv⟩ : ∃ x, u2_.alloc (.cells #[.slice none 0 0, .int .i64 0, .slice none 0 0, .slice none 0 0, .slice none 0 0] 39) = x := ⟨_, rfl⟩
               rw [hv]
               obtain ⟨b33, hg⟩ : ∃ x, u2_.heap.size = x := ⟨_, rfl⟩
               rw [hg]
               have K33 : Aside0 (u3_.heap[b33]? = some (.cells #[.slice none 0 0, .int .i64 0, .slice none 0 0, .slice none 0 0, .slice none 0 0] 39 (0, 0))) := ⟨by rw [← hv, ← hg]; exact blk_new _ _⟩
               have ST : Aside0 (Below u2_.heap.size u2_ u3_) := ⟨hv ▸ below1 _ _⟩
               have G33 : Aside0 (w2.heap.size ≤ b33) := ⟨hg ▸ HLW.out.size⟩
               have NE : Aside0 (b28 ≠ b33) := ⟨by have h := blk_lt K28.out; omega⟩
               have HOK : Aside0 (∀ q, ((q = b28 ∨ q = bC ∨ q = bR) ∨ u1_.heap.size ≤ q) ∧ q < u2_.heap.size → okStp w2 bC bR b33 q) := ⟨fun q hq => by have h1 := NE.out; have h2 := G28.out; have h3 := G33.out; have h4 := HCB.out; have h5 := HW2.out; have h6 := HU31.out; unfold okStp; omega⟩
               clear hv hg
               have K28 := Aside0.mk (blk_below K28.out ST.out)
               have FP := Aside0.mk (Kd.FK_below FP.out ST.out)
               have HLW := Aside0.mk (join_below HLW.out ST.out)
               refine hK _ _ ⟨⟨_, HLW.out⟩, rfl⟩ ?_
               clear hK K ST
               have y0 : World.cell? u3_ ⟨b33, 0, none⟩ = some (.slice none 0 0) := (blk_cell K33.out 0).trans rfl
               have z0 := blk_frozen K33.out 0
               have y1 : World.cell? u3_ ⟨b33, 1, none⟩ = some (.int .i64 0) := (blk_cell K33.out 1).trans rfl
               have z1 := blk_frozen K33.out 1
               have y2 : World.cell? u3_ ⟨b33, 2, none⟩ = some (.slice none 0 0) := (blk_cell K33.out 2).trans rfl
               have z2 := blk_frozen K33.out 2
               have y3 : World.cell? u3_ ⟨b33, 3, none⟩ = some (.slice none 0 0) := (blk_cell K33.out 3).trans rfl
               have z3 := blk_frozen K33.out 3
               have y4 : World.cell? u3_ ⟨b33, 4, none⟩ = some (.slice none 0 0) := (blk_cell K33.out 4).trans rfl
               have z4 := blk_frozen K33.out 4
               refine Ord.lastL (by as_aux_lemma => kernel_rfl) (by rfl) (by decide) (fun K hK => ?_)
               go_simp
               clear y0 y1 y2 y3 y4 z0 z1 z2 z3 z4
               refine hK _ _ ?_
               clear hK K
               have HX := Aside0.mk (StepAt.new (w5 := world5 u3_ b33 (.slice none 0 0) (.int .i64 p.f0) (.slice P2 p.f1.length r2) (.slice P3 p.f2.length r3) (.slice P4 p.f3.length r4)) rfl K33.out FP.out HOK.out HLW.out G33.out)
               refine wpAnyH_done (by as_aux_lemma => kernel_rfl) ?_ _
               go_wp2
               go_meet
               case rel => exact ⟨_, rfl, HX⟩
             · skip
               go_simp
               obtain ⟨u2_, hv⟩ : ∃ x, u1_.alloc (.cells #[.slice none 0 0, .int .i64 0, .slice none 0 0, .slice none 0 0, .slice none 0 0] 39) = x := ⟨_, rfl⟩
               rw [hv]
               obtain ⟨b33, hg⟩ : ∃ x, u1_.heap.size = x := ⟨_, rfl⟩
               rw [hg]
               have K33 : Aside0 (u2_.heap[b33]? = some (.cells #[.slice none 0 0, .int .i64 0, .slice none 0 0, .slice none 0 0, .slice none 0 0] 39 (0, 0))) := ⟨by rw [← hv, ← hg]; exact blk_new _ _⟩
               have ST : Aside0 (Below u1_.heap.size u1_ u2_) := ⟨hv ▸ below1 _ _⟩
               have G33 : Aside0 (w2.heap.size ≤ b33) := ⟨hg ▸ HLW.out.size⟩
               have NE : Aside0 (b28 ≠ b33) := ⟨by have h := blk_lt K28.out; omega⟩
               clear hv hg
               have K28 := Aside0.mk (blk_below K28.out ST.out)
               have HLW := Aside0.mk (join_below HLW.out ST.out)
               refine hK _ _ ⟨⟨_, HLW.out⟩, rfl⟩ ?_
               clear hK K ST
               refine Ord.allL1 (i := 31) (by as_aux_lemma => kernel_rfl) (by rfl) (fun K hK => ?_)
               go_simp
               refine (HPG.out u2_ b28 HLW.out G28.out K28.out).mono ?_
               rintro e u3_ ⟨cs, rfl, hFK, hb⟩
               obtain ⟨P2, r2, P3, r3, P4, r4, rfl, _, _, _, _, _, _⟩ := k37_open (Kd.FK_now hFK)
               have FP := Aside0.mk (Kd.FK_bound hFK)
               have ST := Aside0.mk hb
               have HOK : Aside0 (∀ q, ((q = b28 ∨ q = bC ∨ q = bR) ∨ u2_.heap.size ≤ q) ∧ q < u3_.heap.size → okStp w2 bC bR b33 q) := ⟨fun q hq => by have h1 := NE.out; have h2 := G28.out; have h3 := G33.out; have h4 := HCB.out; have h5 := HW2.out; have h6 := blk_lt K33.out; have h7 := HLW.out.size; unfold okStp; omega⟩
               clear hFK hb
               have K28 := Aside0.mk (blk_below K28.out ST.out)
               have K33 := Aside0.mk (blk_below K33.out ST.out)
               have HU31 : Aside0 (w2.heap.size ≤ u2_.heap.size) := ⟨HLW.out.size⟩
               have HLW := Aside0.mk (join_below HLW.out ST.out)
               refine hK _ _ ⟨⟨_, HLW.out⟩, rfl⟩ ?_
               clear hK K ST
               ((refine Ord.takeLT (i := 32) (by rfl) (by as_aux_lemma => kernel_rfl) ?_ ?_ ?_); (focus first | exact fun _ _ _ _ h => h | exact fun _ _ _ _ h => HPQ.out _ _ _ _ (by rfl) h); (focus exact ⟨⟨_, HLW.out⟩, rfl⟩); intro K hK; go_simp; (with_reducible refine hK _ ?_); clear hK K)
               have y0 : World.cell? u3_ ⟨b33, 0, none⟩ = some (.slice none 0 0) := (blk_cell K33.out 0).trans rfl
               have z0 := blk_frozen K33.out 0
               have y1 : World.cell? u3_ ⟨b33, 1, none⟩ = some (.int .i64 0) := (blk_cell K33.out 1).trans rfl
               have z1 := blk_frozen K33.out 1
               have y2 : World.cell? u3_ ⟨b33, 2, none⟩ = some (.slice none 0 0) := (blk_cell K33.out 2).trans rfl
               have z2 := blk_frozen K33.out 2
               have y3 : World.cell? u3_ ⟨b33, 3, none⟩ = some (.slice none 0 0) := (blk_cell K33.out 3).trans rfl
               have z3 := blk_frozen K33.out 3
               have y4 : World.cell? u3_ ⟨b33, 4, none⟩ = some (.slice none 0 0) := (blk_cell K33.out 4).trans rfl
               have z4 := blk_frozen K33.out 4
               refine Ord.lastL (by as_aux_lemma => kernel_rfl) (by rfl) (by decide) (fun K hK => ?_)
               go_simp
               clear y0 y1 y2 y3 y4 z0 z1 z2 z3 z4
               refine hK _ _ ?_
               clear hK K
               have HX := Aside0.mk (StepAt.new (w5 := world5 u3_ b33 (.slice none 0 0) (.int .i64 p.f0) (.slice P2 p.f1.length r2) (.slice P3 p.f2.length r3) (.slice P4 p.f3.length r4)) rfl K33.out FP.out HOK.out HLW.out G33.out)
               refine wpAnyH_done (by as_aux_lemma => kernel_rfl) ?_ _
               go_wp2
               go_meet
               case rel => exact ⟨_, rfl, HX⟩
           · skip
             go_simp
             obtain ⟨u1_, hv⟩ : ∃ x, wd.alloc (.cells #[.slice none 0 0, .int .i64 0, .slice none 0 0, .slice none 0 0, .slice none 0 0] 39) = x := ⟨_, rfl⟩
             rw [hv]
             obtain ⟨b33, hg⟩ : ∃ x, wd.heap.size = x := ⟨_, rfl⟩
             rw [hg]
             have K33 : Aside0 (u1_.heap[b33]? = some (.cells #[.slice none 0 0, .int .i64 0, .slice none 0 0, .slice none 0 0, .slice none 0 0] 39 (0, 0))) := ⟨by rw [← hv, ← hg]; exact blk_new _ _⟩
             have ST : Aside0 (Below wd.heap.size wd u1_) := ⟨hv ▸ below1 _ _⟩
             have G33 : Aside0 (w2.heap.size ≤ b33) := ⟨hg ▸ HLW.out.size⟩
             clear hv hg
             have HLW := Aside0.mk (join_below HLW.out ST.out)
             refine hK _ _ ⟨⟨_, HLW.out⟩, rfl⟩ ?_
             clear hK K ST
             refine Ord.allL1 (i := 28) (by as_aux_lemma => kernel_rfl) (by rfl) (fun K hK => ?_)
             go_simp
             obtain ⟨u2_, hv⟩ : ∃ x, u1_.alloc (.cells #[.string ⟨#[97]⟩, .string ⟨#[98]⟩] 9) = x := ⟨_, rfl⟩
             rw [hv]
             obtain ⟨b28, hg⟩ : ∃ x, u1_.heap.size = x := ⟨_, rfl⟩
             rw [hg]
             have K28 : Aside0 (u2_.heap[b28]? = some (.cells #[.string ⟨#[97]⟩, .string ⟨#[98]⟩] 9 (0, 0))) := ⟨by rw [← hv, ← hg]; exact blk_new _ _⟩
             have ST : Aside0 (Below u1_.heap.size u1_ u2_) := ⟨hv ▸ below1 _ _⟩
             have G28 : Aside0 (w2.heap.size ≤ b28) := ⟨hg ▸ HLW.out.size⟩
             have NE : Aside0 (b28 ≠ b33) := ⟨by have h := blk_lt K33.out; omega⟩
             clear hv hg
             have K33 := Aside0.mk (blk_below K33.out ST.out)
             have HLW := Aside0.mk (join_below HLW.out ST.out)
             refine hK _ _ ⟨⟨_, HLW.out⟩, rfl⟩ ?_
             clear hK K ST
             refine Ord.allL1 (i := 31) (by as_aux_lemma => kernel_rfl) (by rfl) (fun K hK => ?_)
             go_simp
             refine (HPG.out u2_ b28 HLW.out G28.out K28.out).mono ?_
             rintro e u3_ ⟨cs, rfl, hFK, hb⟩
             obtain ⟨P2, r2, P3, r3, P4, r4, rfl, _, _, _, _, _, _⟩ := k37_open (Kd.FK_now hFK)
             have FP := Aside0.mk (Kd.FK_bound hFK)
             have ST := Aside0.mk hb
             have HOK : Aside0 (∀ q, ((q = b28 ∨ q = bC ∨ q = bR) ∨ u2_.heap.size ≤ q) ∧ q < u3_.heap.size → okStp w2 bC bR b33 q) := ⟨fun q hq => by have h1 := NE.out; have h2 := G28.out; have h3 := G33.out; have h4 := HCB.out; have h5 := HW2.out; have h6 := blk_lt K33.out; have h7 := HLW.out.size; unfold okStp; omega⟩
             clear hFK hb
             have K33 := Aside0.mk (blk_below K33.out ST.out)
             have K28 := Aside0.mk (blk_below K28.out ST.out)
             have HU31 : Aside0 (w2.heap.size ≤ u2_.heap.size) := ⟨HLW.out.size⟩
             have HLW := Aside0.mk (join_below HLW.out ST.out)
             refine hK _ _ ⟨⟨_, HLW.out⟩, rfl⟩ ?_
             clear hK K ST
             ((refine Ord.takeLT (i := 32) (by rfl) (by as_aux_lemma => kernel_rfl) ?_ ?_ ?_); (focus first | exact fun _ _ _ _ h => h | exact fun _ _ _ _ h => HPQ.out _ _ _ _ (by rfl) h); (focus exact ⟨⟨_, HLW.out⟩, rfl⟩); intro K hK; go_simp; (with_reducible refine hK _ ?_); clear hK K)
             have y0 : World.cell? u3_ ⟨b33, 0, none⟩ = some (.slice none 0 0) := (blk_cell K33.out 0).trans rfl
             have z0 := blk_frozen K33.out 0
             have y1 : World.cell? u3_ ⟨b33, 1, none⟩ = some (.int .i64 0) := (blk_cell K33.out 1).trans rfl
             have z1 := blk_frozen K33.out 1
             have y2 : World.cell? u3_ ⟨b33, 2, none⟩ = some (.slice none 0 0) := (blk_cell K33.out 2).trans rfl
             have z2 := blk_frozen K33.out 2
             have y3 : World.cell? u3_ ⟨b33, 3, none⟩ = some (.slice none 0 0) := (blk_cell K33.out 3).trans rfl
             have z3 := blk_frozen K33.out 3
             have y4 : World.cell? u3_ ⟨b33, 4, none⟩ = some (.slice none 0 0) := (blk_cell K33.out 4).trans rfl
             have z4 := blk_frozen K33.out 4
             refine Ord.lastL (by as_aux_lemma => kernel_rfl) (by rfl) (by decide) (fun K hK => ?_)
             go_simp
             clear y0 y1 y2 y3 y4 z0 z1 z2 z3 z4
             refine hK _ _ ?_
             clear hK K
             have HX := Aside0.mk (StepAt.new (w5 := world5 u3_ b33 (.slice none 0 0) (.int .i64 p.f0) (.slice P2 p.f1.length r2) (.slice P3 p.f2.length r3) (.slice P4 p.f3.length r4)) rfl K33.out FP.out HOK.out HLW.out G33.out)
             refine wpAnyH_done (by as_aux_lemma => kernel_rfl) ?_ _
             go_wp2
             go_meet
             case rel => exact ⟨_, rfl, HX⟩
          obtain ⟨gS, rfl, HX⟩ := hcut
          obtain ⟨B, r, d, hrb, hrn⟩ := HS.out.g
          obtain ⟨xs, hxs⟩ : ∃ x, stepsTo ls.length l k j = x := ⟨_, rfl⟩
          obtain ⟨st, hst⟩ : ∃ x, stepOf ls.length l k j = x := ⟨_, rfl⟩
          have HLS : Aside0 (xs.length ≤ 2) := ⟨by rw [← hxs, stepsTo_len]; omega⟩
          have HXS : Aside0 (stepsTo ls.length l k (j + 1) = xs ++ [st]) := ⟨by rw [stepsTo, hxs, hst]⟩
          rw [hxs] at hrn
          rw [hst] at HP
          clear hxs hst
          obtain ⟨rfl, hrd, _⟩ := Kd.N_reads' hrn
          have HRN := Aside0.mk hrn
          have HRB := Aside0.mk hrb
          have HRD := Aside0.mk hrd
          have HW2 : Aside0 (wH.heap.size ≤ w2.heap.size ∧ wH.heap.size ≤ wI.heap.size ∧ wI.heap.size ≤ w2.heap.size) := ⟨Nat.le_trans HI.out.s HS.out.b.size, HI.out.s, HS.out.b.size⟩
          have HRX : Aside0 (∀ wx : World, Below w2.heap.size w2 wx → wx.heap[gr]? = some (.cells #[.int .i64 (10 + (m : Int)), .bool (freeOf k), .slice B xs.length d] 32 (0, 0))) := ⟨fun wx hb => blk_below HRB.out hb⟩
          have HGG : Aside0 (gG < wH.heap.size) := ⟨blk_lt hgbH.out⟩
          have HOKS : Aside0 (∀ q, okStp w2 bC bR gS q → (((W.heap.size < q ∧ q ≠ gG) ∧ (q < wH.heap.size ∨ wI.heap.size ≤ q)) ∧ q ≠ gr) ∧ some q ≠ (Value.slice B xs.length d).ownBlock) := ⟨fun q hq => by have h1 := HCR.out.1; have h2 := HCR.out.2; have h3 := HCB.out; have h4 := HW2.out; have h5 := HGR.out; have h6 := blk_lt HRB.out; have h7 := HGG.out; have h8 := HW3.out; have h9 := HH.out.b.size; have h10 := h1.1; have h11 := h1.2.1; have h12 := h2.1; have h13 := h2.2.1; clear h1 h2; unfold okStp at hq; exact ⟨by omega, fun e => by have h1 := Kd.N_base HRN.out q e.symm; have h2 := Kd.N_lt HRN.out q e.symm; omega⟩⟩
          clear hrb hrn hrd
          have x1 : World.cell? wc ⟨gr, 1, none⟩ = some (.bool (freeOf k)) := (blk_cell (HRX.out _ HX.out.b) 1).trans rfl
          by_cases hc : 0 < j
          · skip
            have HC : Aside0 (0 < j ∨ freeOf k = true) := ⟨Or.inl hc⟩
            clear x1
            have y0 : World.cell? wc ⟨gS, 0, none⟩ = some (.slice none 0 0) := by obtain ⟨P2, r2, P3, r3, P4, r4, hsb, hsk⟩ := HX.out.h; exact (blk_cell hsb 0).trans rfl
            have z0 : World.frozen? wc ⟨gS, 0, none⟩ = false := by obtain ⟨P2, r2, P3, r3, P4, r4, hsb, hsk⟩ := HX.out.h; exact blk_frozen hsb 0
            go_wp2_with fail
            refine (pick_val (madeCalls ls.length) (some ⟨bC, 0, none⟩) (madeCalls ls.length).length _ _ (madeCalls_pos _) (Kd.F_max HCR.out.1.2.2) (Nat.le_refl _)).mono ?_
            rintro e wx ⟨rfl, hw⟩
            obtain rfl : wc = wx := hw.symm
            go_upto_region 20 with (fail)
            clear y0 z0
            obtain ⟨w5, hw5⟩ : ∃ x, wc.setCell ⟨gS, 0, none⟩ (.slice (pickA (madeCalls ls.length) (some ⟨bC, 0, none⟩) (wrap64 (k.tdiv 4))) (pickS (madeCalls ls.length) (wrap64 (k.tdiv 4))).length (pickC (madeCalls ls.length) (madeCalls ls.length).length (wrap64 (k.tdiv 4)))) = x := ⟨_, rfl⟩
            have HX5 : Aside0 (StepAt w2 bC bR gS (pickA (madeCalls ls.length) (some ⟨bC, 0, none⟩) (wrap64 (k.tdiv 4))) (pickS (madeCalls ls.length) (wrap64 (k.tdiv 4))).length (pickC (madeCalls ls.length) (madeCalls ls.length).length (wrap64 (k.tdiv 4))) p w5) := ⟨hw5 ▸ HX.out.put⟩
            rw [hw5]
            clear hw5
            obtain ⟨P2, r2, P3, r3, P4, r4, hsb, hsk⟩ := HX5.out.h
            have HFS : Aside0 (Kd.FK k39 w5 (okStp w2 bC bR gS) st [.slice (pickA (madeCalls ls.length) (some ⟨bC, 0, none⟩) (wrap64 (k.tdiv 4))) (pickS (madeCalls ls.length) (wrap64 (k.tdiv 4))).length (pickC (madeCalls ls.length) (madeCalls ls.length).length (wrap64 (k.tdiv 4))), .int .i64 p.f0, .slice P2 p.f1.length r2, .slice P3 p.f2.length r3, .slice P4 p.f3.length r4]) := ⟨by rw [HP.out, if_pos HC.out]; exact StepAt.fk hsb hsk (pick_le _ (madeCalls_pos _) (Nat.le_refl _)) (pick_F _ (madeCalls_pos _) (Nat.le_refl _) (Kd.F_mono (Kd.F_below (Kd.F_below (Kd.F_step HCR.out.1.2.2 (fun q ho hl => HI.out.k q hl (by rw [ho]; exact HCR.out.1.2.1))) HS.out.b) HX5.out.b) (fun q hq => ⟨Or.inl hq, by have h1 := HCB.out; have h2 := HW2.out; have h3 := HX5.out.ge; omega⟩)))⟩
            have HSB := Aside0.mk hsb
            have y0 : World.cell? w5 ⟨gS, 0, none⟩ = some (.slice (pickA (madeCalls ls.length) (some ⟨bC, 0, none⟩) (wrap64 (k.tdiv 4))) (pickS (madeCalls ls.length) (wrap64 (k.tdiv 4))).length (pickC (madeCalls ls.length) (madeCalls ls.length).length (wrap64 (k.tdiv 4)))) := (blk_cell HSB.out 0).trans rfl
            have y1 : World.cell? w5 ⟨gS, 1, none⟩ = some (.int .i64 p.f0) := (blk_cell HSB.out 1).trans rfl
            have y2 : World.cell? w5 ⟨gS, 2, none⟩ = some (.slice P2 p.f1.length r2) := (blk_cell HSB.out 2).trans rfl
            have y3 : World.cell? w5 ⟨gS, 3, none⟩ = some (.slice P3 p.f2.length r3) := (blk_cell HSB.out 3).trans rfl
            have y4 : World.cell? w5 ⟨gS, 4, none⟩ = some (.slice P4 p.f3.length r4) := (blk_cell HSB.out 4).trans rfl
            have x2 : World.cell? w5 ⟨gr, 2, none⟩ = some (.slice B xs.length d) := (blk_cell (HRX.out _ HX5.out.b) 2).trans rfl
            have HSZ : Aside0 (gS < w5.heap.size ∧ wI.heap.size ≤ w5.heap.size ∧ wH.heap.size ≤ w5.heap.size ∧ W.heap.size < w5.heap.size ∧ gr < w5.heap.size) := ⟨by have h1 := blk_lt hsb; have h2 := HW2.out; have h3 := HX5.out.b.size; have h4 := HW3.out; have h5 := HH.out.b.size; have h6 := blk_lt HRB.out; omega⟩
            clear hsb hsk
            go_wp2_with ((with_reducible refine gate_builtin (b := .append) (xs := #[.tmp 135, .tmp 137]) rfl ?_); refine Kd.N_append k39 (w0 := wI) wI.heap.size ?hg (.tmp 135) (.tmp 137) 30 39 (.agg #[.slice none 0 0, .int .i64 0, .slice none 0 0, .slice none 0 0, .slice none 0 0]) 104 rfl ?ht (by as_aux_lemma => kernel_rfl) rfl (by decide) (by decide) (.slice B xs.length d) xs st [.slice (pickA (madeCalls ls.length) (some ⟨bC, 0, none⟩) (wrap64 (k.tdiv 4))) (pickS (madeCalls ls.length) (wrap64 (k.tdiv 4))).length (pickC (madeCalls ls.length) (madeCalls ls.length).length (wrap64 (k.tdiv 4))), .int .i64 p.f0, .slice P2 p.f1.length r2, .slice P3 p.f2.length r3, .slice P4 p.f3.length r4] (fun q => ((W.heap.size < q ∧ q ≠ gG) ∧ (q < wH.heap.size ∨ wI.heap.size ≤ q)) ∧ q ≠ gr) (okStp w2 bC bR gS) rfl ?hx HFS.out HOKS.out (fun q hq => by have h1 := HSZ.out; have h2 := HGG.out; exact ⟨⟨⟨by omega, by omega⟩, by omega⟩, by omega⟩) (Kd.N_below HRN.out HX5.out.b) (join_below HS.out.b HX5.out.b) HSZ.out.2.1 (by have h1 := HLS.out; omega) ?_; (case hg => rfl); (case hx => first | rfl | simp [Act.eval]); (case ht => exact Tryd.underlying30); intro v9 w9 hN hB hgr hat; obtain ⟨A9, c9, hv9⟩ := Kd.N_slice hN; subst hv9; have HXN := Aside0.mk hN; have HB0 := Aside0.mk hB; have HB9 := Aside0.mk ((hgr.block gr HSZ.out.2.2.2.2 (fun e => (HRN.out.1 gr e.symm).2 rfl)).trans (HRX.out _ HX5.out.b)); have y12 : World.cell? w9 ⟨gr, 2, none⟩ = some (.slice B xs.length d) := (blk_cell HB9.out 2).trans rfl; have z12 := blk_frozen HB9.out 2; clear hN hB hgr hat)
            have HS9 : Aside0 (MadeS W wH wI gG gr ls.length m l k (j + 1) (w9.setCell ⟨gr, 2, none⟩ (.slice A9 (xs.length + 1) c9))) := ⟨⟨⟨A9, xs.length + 1, c9, blk_put HB9.out 2 _ rfl, by rw [HXS.out]; have hN := HXN.out; rw [List.length_append] at hN; exact Kd.N_far (p := ⟨gr, 2, none⟩) hN (fun q hq => hq.2) _⟩, HB0.out.setCell (Nat.le_of_eq HGR.out) _⟩⟩
            go_roundw
            case rel => exact ⟨j + 1, by go_num, by omega, HS9⟩
            case measure => simp [intOf]; omega
          · skip
            obtain rfl : j = 0 := by omega
            by_cases hfr : freeOf k = true
            · skip
              rw [hfr] at x1
              have HC : Aside0 (0 < 0 ∨ freeOf k = true) := ⟨Or.inr hfr⟩
              clear hc hfr
              have y0 : World.cell? wc ⟨gS, 0, none⟩ = some (.slice none 0 0) := by obtain ⟨P2, r2, P3, r3, P4, r4, hsb, hsk⟩ := HX.out.h; exact (blk_cell hsb 0).trans rfl
              have z0 : World.frozen? wc ⟨gS, 0, none⟩ = false := by obtain ⟨P2, r2, P3, r3, P4, r4, hsb, hsk⟩ := HX.out.h; exact blk_frozen hsb 0
              go_wp2_with fail
              refine (pick_val (madeCalls ls.length) (some ⟨bC, 0, none⟩) (madeCalls ls.length).length _ _ (madeCalls_pos _) (Kd.F_max HCR.out.1.2.2) (Nat.le_refl _)).mono ?_
              rintro e wx ⟨rfl, hw⟩
              obtain rfl : wc = wx := hw.symm
              go_upto_region 20 with (fail)
              clear y0 z0
              obtain ⟨w5, hw5⟩ : ∃ x, wc.setCell ⟨gS, 0, none⟩ (.slice (pickA (madeCalls ls.length) (some ⟨bC, 0, none⟩) (wrap64 (k.tdiv 4))) (pickS (madeCalls ls.length) (wrap64 (k.tdiv 4))).length (pickC (madeCalls ls.length) (madeCalls ls.length).length (wrap64 (k.tdiv 4)))) = x := ⟨_, rfl⟩
              have HX5 : Aside0 (StepAt w2 bC bR gS (pickA (madeCalls ls.length) (some ⟨bC, 0, none⟩) (wrap64 (k.tdiv 4))) (pickS (madeCalls ls.length) (wrap64 (k.tdiv 4))).length (pickC (madeCalls ls.length) (madeCalls ls.length).length (wrap64 (k.tdiv 4))) p w5) := ⟨hw5 ▸ HX.out.put⟩
              rw [hw5]
              clear hw5
              obtain ⟨P2, r2, P3, r3, P4, r4, hsb, hsk⟩ := HX5.out.h
              have HFS : Aside0 (Kd.FK k39 w5 (okStp w2 bC bR gS) st [.slice (pickA (madeCalls ls.length) (some ⟨bC, 0, none⟩) (wrap64 (k.tdiv 4))) (pickS (madeCalls ls.length) (wrap64 (k.tdiv 4))).length (pickC (madeCalls ls.length) (madeCalls ls.length).length (wrap64 (k.tdiv 4))), .int .i64 p.f0, .slice P2 p.f1.length r2, .slice P3 p.f2.length r3, .slice P4 p.f3.length r4]) := ⟨by rw [HP.out, if_pos HC.out]; exact StepAt.fk hsb hsk (pick_le _ (madeCalls_pos _) (Nat.le_refl _)) (pick_F _ (madeCalls_pos _) (Nat.le_refl _) (Kd.F_mono (Kd.F_below (Kd.F_below (Kd.F_step HCR.out.1.2.2 (fun q ho hl => HI.out.k q hl (by rw [ho]; exact HCR.out.1.2.1))) HS.out.b) HX5.out.b) (fun q hq => ⟨Or.inl hq, by have h1 := HCB.out; have h2 := HW2.out; have h3 := HX5.out.ge; omega⟩)))⟩
              have HSB := Aside0.mk hsb
              have y0 : World.cell? w5 ⟨gS, 0, none⟩ = some (.slice (pickA (madeCalls ls.length) (some ⟨bC, 0, none⟩) (wrap64 (k.tdiv 4))) (pickS (madeCalls ls.length) (wrap64 (k.tdiv 4))).length (pickC (madeCalls ls.length) (madeCalls ls.length).length (wrap64 (k.tdiv 4)))) := (blk_cell HSB.out 0).trans rfl
              have y1 : World.cell? w5 ⟨gS, 1, none⟩ = some (.int .i64 p.f0) := (blk_cell HSB.out 1).trans rfl
              have y2 : World.cell? w5 ⟨gS, 2, none⟩ = some (.slice P2 p.f1.length r2) := (blk_cell HSB.out 2).trans rfl
              have y3 : World.cell? w5 ⟨gS, 3, none⟩ = some (.slice P3 p.f2.length r3) := (blk_cell HSB.out 3).trans rfl
              have y4 : World.cell? w5 ⟨gS, 4, none⟩ = some (.slice P4 p.f3.length r4) := (blk_cell HSB.out 4).trans rfl
              have x2 : World.cell? w5 ⟨gr, 2, none⟩ = some (.slice B xs.length d) := (blk_cell (HRX.out _ HX5.out.b) 2).trans rfl
              have HSZ : Aside0 (gS < w5.heap.size ∧ wI.heap.size ≤ w5.heap.size ∧ wH.heap.size ≤ w5.heap.size ∧ W.heap.size < w5.heap.size ∧ gr < w5.heap.size) := ⟨by have h1 := blk_lt hsb; have h2 := HW2.out; have h3 := HX5.out.b.size; have h4 := HW3.out; have h5 := HH.out.b.size; have h6 := blk_lt HRB.out; omega⟩
              clear hsb hsk
              go_wp2_with ((with_reducible refine gate_builtin (b := .append) (xs := #[.tmp 135, .tmp 137]) rfl ?_); refine Kd.N_append k39 (w0 := wI) wI.heap.size ?hg (.tmp 135) (.tmp 137) 30 39 (.agg #[.slice none 0 0, .int .i64 0, .slice none 0 0, .slice none 0 0, .slice none 0 0]) 104 rfl ?ht (by as_aux_lemma => kernel_rfl) rfl (by decide) (by decide) (.slice B xs.length d) xs st [.slice (pickA (madeCalls ls.length) (some ⟨bC, 0, none⟩) (wrap64 (k.tdiv 4))) (pickS (madeCalls ls.length) (wrap64 (k.tdiv 4))).length (pickC (madeCalls ls.length) (madeCalls ls.length).length (wrap64 (k.tdiv 4))), .int .i64 p.f0, .slice P2 p.f1.length r2, .slice P3 p.f2.length r3, .slice P4 p.f3.length r4] (fun q => ((W.heap.size < q ∧ q ≠ gG) ∧ (q < wH.heap.size ∨ wI.heap.size ≤ q)) ∧ q ≠ gr) (okStp w2 bC bR gS) rfl ?hx HFS.out HOKS.out (fun q hq => by have h1 := HSZ.out; have h2 := HGG.out; exact ⟨⟨⟨by omega, by omega⟩, by omega⟩, by omega⟩) (Kd.N_below HRN.out HX5.out.b) (join_below HS.out.b HX5.out.b) HSZ.out.2.1 (by have h1 := HLS.out; omega) ?_; (case hg => rfl); (case hx => first | rfl | simp [Act.eval]); (case ht => exact Tryd.underlying30); intro v9 w9 hN hB hgr hat; obtain ⟨A9, c9, hv9⟩ := Kd.N_slice hN; subst hv9; have HXN := Aside0.mk hN; have HB0 := Aside0.mk hB; have HB9 := Aside0.mk ((hgr.block gr HSZ.out.2.2.2.2 (fun e => (HRN.out.1 gr e.symm).2 rfl)).trans (HRX.out _ HX5.out.b)); have y12 : World.cell? w9 ⟨gr, 2, none⟩ = some (.slice B xs.length d) := (blk_cell HB9.out 2).trans rfl; have z12 := blk_frozen HB9.out 2; clear hN hB hgr hat)
              have HS9 : Aside0 (MadeS W wH wI gG gr ls.length m l k (0 + 1) (w9.setCell ⟨gr, 2, none⟩ (.slice A9 (xs.length + 1) c9))) := ⟨⟨⟨A9, xs.length + 1, c9, blk_put HB9.out 2 _ rfl, by rw [HXS.out]; have hN := HXN.out; rw [List.length_append] at hN; exact Kd.N_far (p := ⟨gr, 2, none⟩) hN (fun q hq => hq.2) _⟩, HB0.out.setCell (Nat.le_of_eq HGR.out) _⟩⟩
              go_roundw
              case rel => exact ⟨0 + 1, by go_num, by omega, HS9⟩
              case measure => simp [intOf]; omega
            · skip
              have HC : Aside0 (¬ (0 < 0 ∨ freeOf k = true)) := ⟨fun h => h.elim hc hfr⟩
              have hfr2 : freeOf k = false := by simpa using hfr
              rw [hfr2] at x1
              clear hc hfr hfr2
              go_upto_region 20 with (fail)
              clear x1
              obtain ⟨w5, rfl⟩ : ∃ x, x = wc := ⟨_, rfl⟩
              obtain ⟨P2, r2, P3, r3, P4, r4, hsb, hsk⟩ := HX.out.h
              have HFS : Aside0 (Kd.FK k39 w5 (okStp w2 bC bR gS) st [.slice none 0 0, .int .i64 p.f0, .slice P2 p.f1.length r2, .slice P3 p.f2.length r3, .slice P4 p.f3.length r4]) := ⟨by rw [HP.out, if_neg HC.out]; exact StepAt.fk (cl := []) hsb hsk (Nat.le_refl _) (Kd.F_nil _ _ _)⟩
              have HSB := Aside0.mk hsb
              have y0 : World.cell? w5 ⟨gS, 0, none⟩ = some (.slice none 0 0) := (blk_cell HSB.out 0).trans rfl
              have y1 : World.cell? w5 ⟨gS, 1, none⟩ = some (.int .i64 p.f0) := (blk_cell HSB.out 1).trans rfl
              have y2 : World.cell? w5 ⟨gS, 2, none⟩ = some (.slice P2 p.f1.length r2) := (blk_cell HSB.out 2).trans rfl
              have y3 : World.cell? w5 ⟨gS, 3, none⟩ = some (.slice P3 p.f2.length r3) := (blk_cell HSB.out 3).trans rfl
              have y4 : World.cell? w5 ⟨gS, 4, none⟩ = some (.slice P4 p.f3.length r4) := (blk_cell HSB.out 4).trans rfl
              have x2 : World.cell? w5 ⟨gr, 2, none⟩ = some (.slice B xs.length d) := (blk_cell (HRX.out _ HX.out.b) 2).trans rfl
              have HSZ : Aside0 (gS < w5.heap.size ∧ wI.heap.size ≤ w5.heap.size ∧ wH.heap.size ≤ w5.heap.size ∧ W.heap.size < w5.heap.size ∧ gr < w5.heap.size) := ⟨by have h1 := blk_lt hsb; have h2 := HW2.out; have h3 := HX.out.b.size; have h4 := HW3.out; have h5 := HH.out.b.size; have h6 := blk_lt HRB.out; omega⟩
              clear hsb hsk
              go_wp2_with ((with_reducible refine gate_builtin (b := .append) (xs := #[.tmp 135, .tmp 137]) rfl ?_); refine Kd.N_append k39 (w0 := wI) wI.heap.size ?hg (.tmp 135) (.tmp 137) 30 39 (.agg #[.slice none 0 0, .int .i64 0, .slice none 0 0, .slice none 0 0, .slice none 0 0]) 104 rfl ?ht (by as_aux_lemma => kernel_rfl) rfl (by decide) (by decide) (.slice B xs.length d) xs st [.slice none 0 0, .int .i64 p.f0, .slice P2 p.f1.length r2, .slice P3 p.f2.length r3, .slice P4 p.f3.length r4] (fun q => ((W.heap.size < q ∧ q ≠ gG) ∧ (q < wH.heap.size ∨ wI.heap.size ≤ q)) ∧ q ≠ gr) (okStp w2 bC bR gS) rfl ?hx HFS.out HOKS.out (fun q hq => by have h1 := HSZ.out; have h2 := HGG.out; exact ⟨⟨⟨by omega, by omega⟩, by omega⟩, by omega⟩) (Kd.N_below HRN.out HX.out.b) (join_below HS.out.b HX.out.b) HSZ.out.2.1 (by have h1 := HLS.out; omega) ?_; (case hg => rfl); (case hx => first | rfl | simp [Act.eval]); (case ht => exact Tryd.underlying30); intro v9 w9 hN hB hgr hat; obtain ⟨A9, c9, hv9⟩ := Kd.N_slice hN; subst hv9; have HXN := Aside0.mk hN; have HB0 := Aside0.mk hB; have HB9 := Aside0.mk ((hgr.block gr HSZ.out.2.2.2.2 (fun e => (HRN.out.1 gr e.symm).2 rfl)).trans (HRX.out _ HX.out.b)); have y12 : World.cell? w9 ⟨gr, 2, none⟩ = some (.slice B xs.length d) := (blk_cell HB9.out 2).trans rfl; have z12 := blk_frozen HB9.out 2; clear hN hB hgr hat)
              have HS9 : Aside0 (MadeS W wH wI gG gr ls.length m l k (0 + 1) (w9.setCell ⟨gr, 2, none⟩ (.slice A9 (xs.length + 1) c9))) := ⟨⟨⟨A9, xs.length + 1, c9, blk_put HB9.out 2 _ rfl, by rw [HXS.out]; have hN := HXN.out; rw [List.length_append] at hN; exact Kd.N_far (p := ⟨gr, 2, none⟩) hN (fun q hq => hq.2) _⟩, HB0.out.setCell (Nat.le_of_eq HGR.out) _⟩⟩
              go_roundw
              case rel => exact ⟨0 + 1, by go_num, by omega, HS9⟩
              case measure => simp [intOf]; omega
        · skip
          have e1 : decide ((j : Int) < (sn : Int)) = false := decide_eq_false (by omega)
          obtain rfl : j = sn := by omega
          go_wp2
          go_meet
          case rel => exact HS
      have HS := hcut
      clear hcut
      obtain ⟨B, r, d, hgb, hgn⟩ := HI.out.g
      obtain ⟨B', r', d', hrb, hrn⟩ := HS.out.g
      obtain ⟨rfl, hrd, _⟩ := Kd.N_reads' hrn
      obtain ⟨rfl, _, _⟩ := Kd.N_reads' hgn
      have HGB := Aside0.mk (blk_below hgb HS.out.b)
      have HGN := Aside0.mk (Kd.N_below hgn HS.out.b)
      have HRB := Aside0.mk hrb
      have HFR : Aside0 (Kd.FK kRul wc (fun q => ((W.heap.size < q ∧ q ≠ gG) ∧ (q < wH.heap.size ∨ wI.heap.size ≤ q)) ∧ q ≠ gr) ⟨10 + (m : Int), freeOf k, stepsTo ls.length l k sn⟩ [.int .i64 (10 + (m : Int)), .bool (freeOf k), .slice B' (stepsTo ls.length l k sn).length d']) := ⟨k32_mkF wc _ ⟨10 + (m : Int), freeOf k, stepsTo ls.length l k sn⟩ hrd (Kd.N_F hrn)⟩
      have HOK : Aside0 (∀ q, (((W.heap.size < q ∧ q ≠ gG) ∧ (q < wH.heap.size ∨ wI.heap.size ≤ q)) ∧ q ≠ gr) → (W.heap.size < q ∧ q ≠ gG) ∧ some q ≠ (Value.slice B (rulesTo ls.length ls m).length d).ownBlock) := ⟨fun q hq => ⟨hq.1.1, fun e => by have h1 := Kd.N_base hgn q e.symm; have h2 := Kd.N_lt hgn q e.symm; omega⟩⟩
      have HRM : Aside0 (rulesTo ls.length ls (m + 1) = rulesTo ls.length ls m ++ [⟨10 + (m : Int), freeOf k, stepsTo ls.length l k sn⟩]) := ⟨by rw [rulesTo_more HLM.out (by have := H2.out; omega) HK.out]; unfold ruleOf; rw [HSN.out]⟩
      have y0 : World.cell? wc ⟨gG, 0, none⟩ = some (.slice A4 n4 c4) := (blk_cell HGB.out 0).trans rfl
      have y1 : World.cell? wc ⟨gG, 1, none⟩ = some (.slice B (rulesTo ls.length ls m).length d) := (blk_cell HGB.out 1).trans rfl
      have x0 : World.cell? wc ⟨gr, 0, none⟩ = some (.int .i64 (10 + (m : Int))) := (blk_cell HRB.out 0).trans rfl
      have x1 : World.cell? wc ⟨gr, 1, none⟩ = some (.bool (freeOf k)) := (blk_cell HRB.out 1).trans rfl
      have x2 : World.cell? wc ⟨gr, 2, none⟩ = some (.slice B' (stepsTo ls.length l k sn).length d') := (blk_cell HRB.out 2).trans rfl
      have HGE : Aside0 (gG < wc.heap.size) := ⟨blk_lt HGB.out⟩
      have HWS : Aside0 (wH.heap.size ≤ wc.heap.size ∧ W.heap.size < wc.heap.size) := ⟨by have h1 := HI.out.s; have h2 := HS.out.b.size; have h3 := HI.out.b.size; have h4 := HW3.out; omega⟩
      clear hgb hgn hrb hrn hrd
      go_wp2_with ((with_reducible refine gate_builtin (b := .append) (xs := #[.tmp 141, .tmp 143]) rfl ?_); refine Kd.N_append kRul (w0 := wc) wH.heap.size ?hg (.tmp 141) (.tmp 143) 24 32 (.agg #[.int .i64 0, .bool false, .slice none 0 0]) 40 rfl ?ht (by as_aux_lemma => kernel_rfl) rfl (by decide) (by decide) (.slice B (rulesTo ls.length ls m).length d) (rulesTo ls.length ls m) ⟨10 + (m : Int), freeOf k, stepsTo ls.length l k sn⟩ [.int .i64 (10 + (m : Int)), .bool (freeOf k), .slice B' (stepsTo ls.length l k sn).length d'] (fun k => W.heap.size < k ∧ k ≠ gG) (fun q => ((W.heap.size < q ∧ q ≠ gG) ∧ (q < wH.heap.size ∨ wI.heap.size ≤ q)) ∧ q ≠ gr) rfl ?hx HFR.out HOK.out (fun q hq => by have := HGE.out; have := HWS.out; exact ⟨by omega, by omega⟩) HGN.out (Below.refl _ _) HWS.out.1 (by have h1 := rulesTo_len ls.length ls m; have h2 := HM.out; omega) ?_; (case hg => rfl); (case hx => first | rfl | simp [Act.eval]); (case ht => exact Tryd.underlying24); intro v9 w9 hN hB hgr hat; obtain ⟨A9, c9, hv9⟩ := Kd.N_slice hN; subst hv9; have HX := Aside0.mk hN; have HXG := Aside0.mk hgr; have HB9 := Aside0.mk ((hgr.block gG HGE.out (fun e => (HGN.out.1 gG e.symm).2 rfl)).trans HGB.out); have y11 : World.cell? w9 ⟨gG, 1, none⟩ = some (.slice B (rulesTo ls.length ls m).length d) := (blk_cell HB9.out 1).trans rfl; have z11 := blk_frozen HB9.out 1; clear hN hB hgr hat)
      have HB3w : Aside0 (Below w3.heap.size w3 w9) := ⟨Below.grown (join_below HI.out.b HS.out.b) HXG.out (Nat.le_trans HH.out.b.size HWS.out.1) (fun q hq => Nat.le_trans HH.out.b.size (Kd.N_base HGN.out q hq))⟩
      have HW9 : Aside0 (wH.heap.size ≤ w9.heap.size) := ⟨Nat.le_trans HWS.out.1 HXG.out.size⟩
      have HI9 : Aside0 (MadeI W w3 wH gG A4 n4 c4 (m + 1) ls (w9.setCell ⟨gG, 1, none⟩ (.slice A9 ((rulesTo ls.length ls m).length + 1) c9))) := ⟨⟨⟨A9, (rulesTo ls.length ls m).length + 1, c9, blk_put HB9.out 1 _ rfl, by rw [HRM.out]; have hN := HX.out; rw [List.length_append] at hN; exact Kd.N_far (p := ⟨gG, 1, none⟩) hN (fun q hq => hq.2) _⟩, fun q hq hne => (Below.heap_setCell w9 ⟨gG, 1, none⟩ _ q hne).trans ((HXG.out.block q (by have := HWS.out; omega) (fun e => by have := Kd.N_base HGN.out q e.symm; omega)).trans ((HS.out.b.block q (by have := HI.out.s; omega)).trans (HI.out.k q hq hne))), Nat.le_trans HW9.out ((Below.refl gG w9).setCell (Nat.le_refl _) _).size, HB3w.out.setCell HH.out.ge _⟩⟩
      go_roundw
      case rel => exact ⟨m + 1, by go_num, by have := HM.out; omega, by have := HM.out; omega, HI9⟩
      case measure => have := HM.out; simp [intOf]; omega
  · skip
    have HRR : Aside0 (rulesTo ls.length ls m = madeRs ls) := ⟨by unfold madeRs; rw [show min ls.length 3 = m by omega]⟩
    obtain ⟨B, r, d, hgb, hgn⟩ := HI.out.g
    have HGB := Aside0.mk hgb
    have HGN := Aside0.mk hgn
    have HBW := Aside0.mk (blk_below (blk_below (blk_below HBLK.out HB12.out) HB3.out) HI.out.b)
    have h8 : ls.length ≤ m ∨ (m < ls.length ∧ 3 ≤ m) := by omega
    clear hgb hgn hlt hm1 hm2
    rcases h8 with h8 | h8
    · as_aux_lemma =>
      have e1 : decide (m < ls.length) = false := decide_eq_false (by omega)
      go_upto_region 22 with (fail)
      clear e1 h8
      have y0 : World.cell? wr ⟨gG, 0, none⟩ = some (.slice A4 n4 c4) := (blk_cell HGB.out 0).trans rfl
      have x0 : World.cell? wr ⟨W.heap.size, 0, none⟩ = some (.slice none 0 0) := (blk_cell HBW.out 0).trans rfl
      have z0 := blk_frozen HBW.out 0
      have y1 : World.cell? wr ⟨gG, 1, none⟩ = some (.slice B r d) := (blk_cell HGB.out 1).trans rfl
      have x1 : World.cell? wr ⟨W.heap.size, 1, none⟩ = some (.slice none 0 0) := (blk_cell HBW.out 1).trans rfl
      have z1 := blk_frozen HBW.out 1
      go_wp2
      refine bodyPost_ret (results_cell_row rfl _ _ W.heap.size 26 #[.slice A4 n4 c4, .slice B r d] (0, 0) _ rfl (blk_put (blk_put HBW.out 0 (.slice A4 n4 c4) rfl) 1 (.slice B r d) rfl) Tryd.underlying26 rfl (by as_aux_lemma => kernel_rfl)) rfl ?_
      have N1 := Kd.N_step HT.out (fun k ho hlt => HI.out.k k hlt ho.2)
      have N2 := HGN.out
      rw [HRR.out] at N2
      exact ⟨_, _, rfl, Kd.N_mono (Kd.N_far (p := ⟨W.heap.size, 1, none⟩) (Kd.N_far (p := ⟨W.heap.size, 0, none⟩) N1 (fun q hq => Nat.ne_of_gt hq.1) _) (fun q hq => Nat.ne_of_gt hq.1) _) (fun q hq => Nat.le_of_lt hq.1), Kd.N_lower (Kd.N_mono (Kd.N_far (p := ⟨W.heap.size, 1, none⟩) (Kd.N_far (p := ⟨W.heap.size, 0, none⟩) N2 (fun q hq => Nat.ne_of_gt hq.1) _) (fun q hq => Nat.ne_of_gt hq.1) _) (fun q hq => Nat.le_of_lt hq.1)) (by have h1 := HW3.out; have h2 := HH.out.b.size; omega), ((join_below (join_below HB2.out HB3.out) HI.out.b).setCell (Nat.le_refl _) _).setCell (Nat.le_refl _) _⟩
    · as_aux_lemma =>
      have e1 : decide (m < ls.length) = true := decide_eq_true (by omega)
      have e2 : decide ((m : Int) < 3) = false := decide_eq_false (by omega)
      go_upto_region 22 with (fail)
      clear e1 e2 h8
      have y0 : World.cell? wr ⟨gG, 0, none⟩ = some (.slice A4 n4 c4) := (blk_cell HGB.out 0).trans rfl
      have x0 : World.cell? wr ⟨W.heap.size, 0, none⟩ = some (.slice none 0 0) := (blk_cell HBW.out 0).trans rfl
      have z0 := blk_frozen HBW.out 0
      have y1 : World.cell? wr ⟨gG, 1, none⟩ = some (.slice B r d) := (blk_cell HGB.out 1).trans rfl
      have x1 : World.cell? wr ⟨W.heap.size, 1, none⟩ = some (.slice none 0 0) := (blk_cell HBW.out 1).trans rfl
      have z1 := blk_frozen HBW.out 1
      go_wp2
      refine bodyPost_ret (results_cell_row rfl _ _ W.heap.size 26 #[.slice A4 n4 c4, .slice B r d] (0, 0) _ rfl (blk_put (blk_put HBW.out 0 (.slice A4 n4 c4) rfl) 1 (.slice B r d) rfl) Tryd.underlying26 rfl (by as_aux_lemma => kernel_rfl)) rfl ?_
      have N1 := Kd.N_step HT.out (fun k ho hlt => HI.out.k k hlt ho.2)
      have N2 := HGN.out
      rw [HRR.out] at N2
      exact ⟨_, _, rfl, Kd.N_mono (Kd.N_far (p := ⟨W.heap.size, 1, none⟩) (Kd.N_far (p := ⟨W.heap.size, 0, none⟩) N1 (fun q hq => Nat.ne_of_gt hq.1) _) (fun q hq => Nat.ne_of_gt hq.1) _) (fun q hq => Nat.le_of_lt hq.1), Kd.N_lower (Kd.N_mono (Kd.N_far (p := ⟨W.heap.size, 1, none⟩) (Kd.N_far (p := ⟨W.heap.size, 0, none⟩) N2 (fun q hq => Nat.ne_of_gt hq.1) _) (fun q hq => Nat.ne_of_gt hq.1) _) (fun q hq => Nat.le_of_lt hq.1)) (by have h1 := HW3.out; have h2 := HH.out.b.size; omega), ((join_below (join_below HB2.out HB3.out) HI.out.b).setCell (Nat.le_refl _) _).setCell (Nat.le_refl _) _⟩
end Go.Proofs.YthdfmbmbjpmlaaaDoor.Rn
end
section
set_option linter.unusedVariables false
set_option linter.unusedSimpArgs false
namespace Go.Proofs.YthdfmbmbjpmlaaaDoor.Rn
open Go Go.RowKit Go.Proofs.YthdfmbmbjpmlaaaDoorW.PrintWords Go.Proofs.YthdfmbmbjpmlaaaDoorW.PrintLast Go.Proofs.YthdfmbmbjpmlaaaDoorW.PrintMore
structure BrkMid (W w : World) (B b5 : Nat) (AX : Option Addr) (nX cX : Nat) (T : List Tok) (R : List Rul) : Prop where
 t : Kd.N kTok 50 w B (fun k => k ≠ b5) (.slice AX nX cX) T
 g : ∃ u A c, w.heap[b5]? = some (.cells #[u, .slice A R.length c] 26 (0, 0)) ∧ Kd.F kRul w (fun k => k ≠ b5) A R.length R
 b : Below W.heap.size W w
theorem made_at (n : Nat) : (madeTs n)[0]? = some ⟨⟨#[97]⟩, 0, 1, oneT 97⟩ ∧ (madeTs n)[1]? = some ⟨⟨#[98]⟩, 0, 2, ⟨2, [⟨10, 10⟩, ⟨98, 98⟩], []⟩⟩ ∧ (madeTs n)[2]? = some ⟨⟨#[111]⟩, 1, 3, oneT 99⟩ ∧ 4 ≤ (madeTs n).length ∧ (madeTs n).length ≤ 6 := by
 unfold madeTs
 by_cases h : 3 < n
 · rw [if_pos h]
   exact ⟨rfl, rfl, rfl, by decide, by decide⟩
 · rw [if_neg h]
   exact ⟨rfl, rfl, rfl, by decide, by decide⟩
theorem tok_f4 {W : World} {ok : Nat → Prop} {t : Tok} {A4 A5 : Option Addr} {c4 c5 : Nat} (h : Kd.FK kTok W ok t [.string t.f0, .int .i64 t.f1, .int .i64 t.f2, .int .i64 t.f3.f0, .slice A4 t.f3.f1.length c4, .slice A5 t.f3.f2.length c5]) : Kd.F k56 W ok A4 t.f3.f1.length t.f3.f1 := Foot.imp h (fun W' hK => by
 obtain ⟨B4, d4, B5, d5, e, l4, C4, l5, C5⟩ := k50_open hK
 simp only [List.cons.injEq, Value.slice.injEq, true_and, and_true] at e
 obtain ⟨⟨rfl, rfl⟩, rfl, rfl⟩ := e
 exact C4)
theorem tok_f5 {W : World} {ok : Nat → Prop} {t : Tok} {A4 A5 : Option Addr} {c4 c5 : Nat} (h : Kd.FK kTok W ok t [.string t.f0, .int .i64 t.f1, .int .i64 t.f2, .int .i64 t.f3.f0, .slice A4 t.f3.f1.length c4, .slice A5 t.f3.f2.length c5]) : Kd.F k48 W ok A5 t.f3.f2.length t.f3.f2 := Foot.imp h (fun W' hK => by
 obtain ⟨B4, d4, B5, d5, e, l4, C4, l5, C5⟩ := k50_open hK
 simp only [List.cons.injEq, Value.slice.injEq, true_and, and_true] at e
 obtain ⟨⟨rfl, rfl⟩, rfl, rfl⟩ := e
 exact C5)
theorem brk_neg (n w : Nat) : (brkC w == 0) = false := by
 unfold brkC
 repeat' split
 all_goals rfl
set_option maxHeartbeats 40000000 in
set_option maxRecDepth 100000 in
theorem breaks_any (ls : List (List Int)) (A : Option Addr) (c : Nat) (okA : Nat → Prop) (W : World) (hA : ∀ q, okA q → q < W.heap.size) (hL : Kd.F (Kd.slice 3 (Kd.int .i64)) W okA A ls.length ls) (hsm : ∀ l, l ∈ ls → l.length ≤ 1048576) (how : Int) (hO : OwnAt W) :
 Calls Tryd.prog 4 #[.slice A ls.length c, .int .i64 how] W fun e W' => e = .returned (.bool true) ∧ Below W.heap.size W W' := by
 have HO := Aside0.mk hO
 have HMK : Aside0 (∀ w, Below W.heap.size W w → Calls Tryd.prog 6 #[.slice A ls.length c] w (fun e W' => ∃ v1 v2, e = .returned (.agg #[v1, v2]) ∧ Kd.N kTok 50 W' w.heap.size (fun k => w.heap.size ≤ k) v1 (madeTs ls.length) ∧ Kd.N kRul 32 W' w.heap.size (fun k => w.heap.size ≤ k) v2 (madeRs ls) ∧ Below w.heap.size w W')) := ⟨fun w hb => make_gen ls A c okA w (fun q hq => Nat.lt_of_lt_of_le (hA q hq) hb.size) (Kd.F_below hL hb) hsm⟩
 clear hA hL hsm hO
 obtain ⟨v, hv⟩ : ∃ v : Nat, IntKind.u64.wrap how % 8 = (v : Int) := ⟨(IntKind.u64.wrap how % 8).toNat, by omega⟩
 have hv8 : v < 8 := by omega
 have e3 : wrap64 ((IntKind.u64.wrap how).tmod 8) = (v : Int) := by
  rw [Int.tmod_eq_emod_of_nonneg (wrap_u0 how).1, hv]
  unfold wrap64
  omega
 have HV := Aside0.mk hv
 clear hv
 have HCB := Aside0.mk (chk_brk ls v hv8)
 have HCG := Aside0.mk (chk_gen ls)
 have hmk := HMK.out W (Below.refl _ _)
 go_enter Tryd.func4, Tryd.ntmps4
 go_wp2_with fail
 refine hmk.mono ?_
 clear hmk
 rintro e w1 ⟨v1, v2, rfl, hT, hR, hb⟩
 obtain ⟨AT, ct, rfl⟩ := Kd.N_slice hT
 obtain ⟨AR, cr, rfl⟩ := Kd.N_slice hR
 have hl3 := made_rules_len ls
 obtain ⟨t0, t1, t2, hl4, hl6⟩ := made_at ls.length
 obtain ⟨T, hT0⟩ : ∃ x, madeTs ls.length = x := ⟨_, rfl⟩
 obtain ⟨R, hR0⟩ : ∃ x, madeRs ls = x := ⟨_, rfl⟩
 have HT0 := Aside0.mk hT0
 have HR0 := Aside0.mk hR0
 rw [hT0] at hT hl4 hl6 t0 t1 t2 ⊢
 rw [hR0] at hR hl3 ⊢
 have HTA := Aside0.mk (And.intro t0 (And.intro t1 t2))
 have HTF : Aside0 (Kd.F kTok w1 (fun k => W.heap.size ≤ k ∧ k < w1.heap.size) AT T.length T) := ⟨Kd.N_F (Kd.N_bound hT)⟩
 have HRF : Aside0 (Kd.F kRul w1 (fun k => W.heap.size ≤ k ∧ k < w1.heap.size) AR R.length R) := ⟨Kd.N_F (Kd.N_bound hR)⟩
 have HB1 := Aside0.mk hb
 clear hT hR hb hT0 hR0 t0 t1 t2
 go_upto_region 2 with (fail)
 obtain ⟨b5, hb5⟩ : ∃ x, w1.heap.size = x := ⟨_, rfl⟩
 obtain ⟨w2, hw2⟩ : ∃ x, w1.alloc (.cells #[.slice AT T.length ct, .slice AR R.length cr] 26) = x := ⟨_, rfl⟩
 have HB2 : Aside0 (Below w1.heap.size w1 w2) := ⟨hw2 ▸ below1 _ _⟩
 have HK5 : Aside0 (w2.heap[b5]? = some (.cells #[.slice AT T.length ct, .slice AR R.length cr] 26 (0, 0))) := ⟨by rw [← hw2, ← hb5]; exact blk_new _ _⟩
 have HG5 := Aside0.mk hb5
 rw [hw2, hb5]
 clear hw2 hb5
 have x0 : w2.cell? ⟨b5, 0, none⟩ = some (.slice AT T.length ct) := (blk_cell HK5.out 0).trans rfl
 go_upto_region 3 with (fail)
 obtain ⟨w3, hw3⟩ : ∃ x, w2.alloc (.cells #[] 50) = x := ⟨_, rfl⟩
 obtain ⟨g0, hg0⟩ : ∃ x, w2.heap.size = x := ⟨_, rfl⟩
 have HB3 : Aside0 (Below w2.heap.size w2 w3) := ⟨hw3 ▸ below1 _ _⟩
 have HK0 : Aside0 (w3.heap[g0]? = some (.cells #[] 50 (0, 0))) := ⟨by rw [← hw3, ← hg0]; exact blk_new _ _⟩
 have HG0 : Aside0 (w2.heap.size = g0 ∧ b5 < g0) := ⟨hg0, by have := blk_lt HK5.out; omega⟩
 have HN0 : Aside0 (Kd.N kTok 50 w3 w2.heap.size (fun k => k ≠ b5) (.slice (some ⟨g0, 0, none⟩) 0 0) []) := ⟨n_empty kTok _ HK0.out rfl (Nat.le_of_eq HG0.out.1) (by have := HG0.out.2; omega)⟩
 have HTF3 := Aside0.mk (Kd.F_below HTF.out (join_below HB2.out HB3.out))
 have x1 : w3.cell? ⟨b5, 0, none⟩ = some (.slice AT T.length ct) := cell_after HB3.out x0
 go_upto_region 5 with ((with_reducible refine gate_builtin (b := .append) (xs := #[.tmp 17, .tmp 19]) rfl ?_); (try rw [hw3]); (try rw [hg0]); refine Kd.N_append_rows kTok (w0 := w2) w2.heap.size ?hg (.tmp 17) (.tmp 19) 23 50 (.agg #[.string ⟨#[]⟩, .int .i64 0, .int .i64 0, .int .i64 0, .slice none 0 0, .slice none 0 0]) 88 rfl ?ht (by kernel_rfl) rfl (by decide) (by decide) (.slice (some ⟨g0, 0, none⟩) 0 0) [] T AT T.length ct (fun k => k ≠ b5) (fun k => W.heap.size ≤ k ∧ k < w1.heap.size) ?hs ?hx HN0.out HTF3.out (fun k hk => ⟨by have := HG5.out; omega, by have h1 := HG0.out; have h2 := HG5.out; show ¬ some k = some g0; intro e; injection e; omega⟩) (fun k hk => by have h1 := blk_lt HK0.out; have h2 := HG0.out; omega) HB3.out HB3.out.size (by simp; omega) ?_; (case hg => rfl); (case ht => exact Tryd.underlying23); (case hs => first | rfl | (simp [Act.eval]; done)); (case hx => first | rfl | (simp [Act.eval]; done)); intro v7 w4 hN hB hgr hat; rw [List.nil_append] at hN; obtain ⟨AX, cX, hv7⟩ := Kd.N_slice hN; subst hv7; have HX := Aside0.mk hN; have HB4 := Aside0.mk hB; clear hN hB hgr hat x0 x1)
 go_cut [24] (fun vv w' => vv = .int .i64 (v : Int) ∧ w' = w4)
 case first =>
  go_wp2
  go_meet
  case rel => exact ⟨congrArg (Value.int .i64) e3, rfl⟩
 obtain ⟨rfl, hcw⟩ := hcut
 rw [hcw]
 clear hcw e3 hw3 hg0
 go_upto_block 0 with (fail)
 obtain ⟨gX, dX, hf, _, hgX, _⟩ := Kd.N_form HX.out (show 0 < T.length by omega)
 injection hf with hf1 hf2 hf3
 subst hf1 hf3
 have HGX : Aside0 (b5 < gX ∧ gX < w4.heap.size ∧ w2.heap.size ≤ gX) := ⟨by have h1 := Kd.N_base HX.out gX rfl; have h2 := HG0.out; have h3 := Kd.N_lt HX.out gX rfl; omega⟩
 have HB24 := Aside0.mk (join_below HB2.out HB4.out)
 have HRF4 : Aside0 (Kd.F kRul w4 (fun k => k < b5) AR R.length R) := ⟨Kd.F_mono (Kd.F_below HRF.out HB24.out) (fun k hk => by have := HG5.out; omega)⟩
 have HK54 := Aside0.mk (blk_below HK5.out HB4.out)
 have HBW := Aside0.mk (join_below HB1.out HB24.out)
 clear HTF HTF3 HRF HN0 HK0 HK5 HB2 HB3 HB4 HB24 hgX
 go_cut [8, 9] (fun v8 v9 w' => v8 = .int .i64 (brkC v) ∧ v9 = .int .i64 (brkN ls.length v) ∧ Aside0 (BrkMid W w' w2.heap.size b5 (some ⟨gX, 0, none⟩) T.length cX (brkT ls.length v) (brkR v R)))
 case first =>
  have h8 : v = 0 ∨ v = 1 ∨ v = 2 ∨ v = 3 ∨ v = 4 ∨ v = 5 ∨ v = 6 ∨ v = 7 := by omega
  rcases h8 with h8 | h8 | h8 | h8 | h8 | h8 | h8 | h8
  · skip
    have HVE := Aside0.mk h8
    have q0 : ((v : Int) == 0) = true := beq_iff_eq.2 (by omega)
    clear h8 hv8
    obtain ⟨csa, _, hFKa, hcca, hfza⟩ := Kd.N_elem HX.out (⟨⟨#[]⟩, 0, 0, ⟨0, [], []⟩⟩ : Tok) (1 : Int) (by decide) (by omega)
    have hza : T.getD (1 : Int).toNat ⟨⟨#[]⟩, 0, 0, ⟨0, [], []⟩⟩ = ⟨⟨#[98]⟩, 0, 2, ⟨2, [⟨10, 10⟩, ⟨98, 98⟩], []⟩⟩ := by show T.getD 1 _ = _; rw [List.getD_eq_getElem?_getD, HTA.out.2.1]; rfl
    rw [hza] at hFKa
    obtain ⟨A4a, c4a, A5a, c5a, rfl, l4a, g4a, l5a, g5a⟩ := k50_open (Kd.FK_now hFKa)
    have HEa := Aside0.mk hFKa
    have HCa := Aside0.mk hcca
    have HF4a := Aside0.mk (tok_f4 HEa.out)
    have HF5a := Aside0.mk (tok_f5 HEa.out)
    have HLa := Aside0.mk (And.intro l4a (And.intro g4a (And.intro l5a g5a)))
    have hsa : kTok.sz = 6 := rfl
    have HZa : Aside0 (∀ j, World.frozen? w4 ⟨gX, 6 + j, none⟩ = false) := ⟨fun j => by have h := hfza j; rw [hsa] at h; exact h⟩
    clear hcca hfza hza hFKa hsa l4a g4a l5a g5a
    obtain ⟨csb, _, hFKb, hccb, hfzb⟩ := Kd.N_elem HX.out (⟨⟨#[]⟩, 0, 0, ⟨0, [], []⟩⟩ : Tok) (0 : Int) (by decide) (by omega)
    have hzb : T.getD (0 : Int).toNat ⟨⟨#[]⟩, 0, 0, ⟨0, [], []⟩⟩ = ⟨⟨#[97]⟩, 0, 1, oneT 97⟩ := by show T.getD 0 _ = _; rw [List.getD_eq_getElem?_getD, HTA.out.1]; rfl
    rw [hzb] at hFKb
    obtain ⟨A4b, c4b, A5b, c5b, rfl, l4b, g4b, l5b, g5b⟩ := k50_open (Kd.FK_now hFKb)
    have HEb := Aside0.mk hFKb
    have HCb := Aside0.mk hccb
    have HF4b := Aside0.mk (tok_f4 HEb.out)
    have HF5b := Aside0.mk (tok_f5 HEb.out)
    have HLb := Aside0.mk (And.intro l4b (And.intro g4b (And.intro l5b g5b)))
    have hsb : kTok.sz = 6 := rfl
    have HZb : Aside0 (∀ j, World.frozen? w4 ⟨gX, 0 + j, none⟩ = false) := ⟨fun j => by have h := hfzb j; rw [hsb] at h; exact h⟩
    clear hccb hfzb hzb hFKb hsb l4b g4b l5b g5b
    have yb0 : World.cell? w4 ⟨gX, 0, none⟩ = some (.string ⟨#[97]⟩) := HCb.out 0 _ rfl
    have ya0 : World.cell? w4 ⟨gX, 6, none⟩ = some (.string ⟨#[98]⟩) := HCa.out 0 _ rfl
    have za0 : World.frozen? w4 ⟨gX, 6, none⟩ = false := HZa.out 0
    have HSG := Aside0.mk (Kd.N_seg HX.out (1 : Int) (by decide) (by omega) (c := [.string ⟨#[98]⟩, .int .i64 0, .int .i64 2, .int .i64 2, .slice A4a 2 c4a, .slice A5a 0 c5a]) (seg := [.string ⟨#[97]⟩]) (j := 0) rfl HCa.out (by decide) (x' := ⟨⟨#[97]⟩, 0, 2, ⟨2, [⟨10, 10⟩, ⟨98, 98⟩], []⟩⟩) (k50_mkF w4 _ ⟨⟨#[97]⟩, 0, 2, ⟨2, [⟨10, 10⟩, ⟨98, 98⟩], []⟩⟩ HLa.out.1 HF4a.out HLa.out.2.2.1 HF5a.out) (fun q hq => hq))
    go_wp2
    go_meet
    case rel =>
     rw [HVE.out]
     refine ⟨rfl, rfl, ⟨⟨?_, ⟨_, AR, cr, (HSG.out.2.block b5 (blk_lt HK54.out) (by have h1 := HGX.out; show ¬ some b5 = some gX; intro e; injection e; omega)).trans HK54.out, Kd.F_mono (Kd.F_grown HRF4.out HSG.out.2 (fun k hk => by have h1 := HGX.out; show ¬ some k = some gX; intro e; injection e; omega)) (fun k hk => Nat.ne_of_lt hk)⟩, Below.grown HBW.out HSG.out.2 HBW.out.size (fun q hq => by obtain rfl := Option.some.inj hq; have h1 := HGX.out; have h2 := HG5.out; have h3 := HB1.out.size; omega)⟩⟩⟩
     have h := HSG.out.1
     have h2 := HT0.out
     subst h2
     exact h
  · skip
    have HVE := Aside0.mk h8
    have q0 : ((v : Int) == 0) = false := beq_eq_false_iff_ne.2 (by omega)
    have q1 : ((v : Int) == 1) = true := beq_iff_eq.2 (by omega)
    clear h8 hv8
    obtain ⟨csa, _, hFKa, hcca, hfza⟩ := Kd.N_elem HX.out (⟨⟨#[]⟩, 0, 0, ⟨0, [], []⟩⟩ : Tok) (2 : Int) (by decide) (by omega)
    have hza : T.getD (2 : Int).toNat ⟨⟨#[]⟩, 0, 0, ⟨0, [], []⟩⟩ = ⟨⟨#[111]⟩, 1, 3, oneT 99⟩ := by show T.getD 2 _ = _; rw [List.getD_eq_getElem?_getD, HTA.out.2.2]; rfl
    rw [hza] at hFKa
    obtain ⟨A4a, c4a, A5a, c5a, rfl, l4a, g4a, l5a, g5a⟩ := k50_open (Kd.FK_now hFKa)
    have HEa := Aside0.mk hFKa
    have HCa := Aside0.mk hcca
    have HF4a := Aside0.mk (tok_f4 HEa.out)
    have HF5a := Aside0.mk (tok_f5 HEa.out)
    have HLa := Aside0.mk (And.intro l4a (And.intro g4a (And.intro l5a g5a)))
    have hsa : kTok.sz = 6 := rfl
    have HZa : Aside0 (∀ j, World.frozen? w4 ⟨gX, 12 + j, none⟩ = false) := ⟨fun j => by have h := hfza j; rw [hsa] at h; exact h⟩
    clear hcca hfza hza hFKa hsa l4a g4a l5a g5a
    have ya0 : World.cell? w4 ⟨gX, 13, none⟩ = some (.int .i64 1) := HCa.out 1 _ rfl
    have za0 : World.frozen? w4 ⟨gX, 13, none⟩ = false := HZa.out 1
    have HSG := Aside0.mk (Kd.N_seg HX.out (2 : Int) (by decide) (by omega) (c := [.string ⟨#[111]⟩, .int .i64 1, .int .i64 3, .int .i64 2, .slice A4a 1 c4a, .slice A5a 0 c5a]) (seg := [.int .i64 3]) (j := 1) rfl HCa.out (by decide) (x' := ⟨⟨#[111]⟩, 3, 3, oneT 99⟩) (k50_mkF w4 _ ⟨⟨#[111]⟩, 3, 3, oneT 99⟩ HLa.out.1 HF4a.out HLa.out.2.2.1 HF5a.out) (fun q hq => hq))
    go_wp2
    go_meet
    case rel =>
     rw [HVE.out]
     refine ⟨rfl, rfl, ⟨⟨?_, ⟨_, AR, cr, (HSG.out.2.block b5 (blk_lt HK54.out) (by have h1 := HGX.out; show ¬ some b5 = some gX; intro e; injection e; omega)).trans HK54.out, Kd.F_mono (Kd.F_grown HRF4.out HSG.out.2 (fun k hk => by have h1 := HGX.out; show ¬ some k = some gX; intro e; injection e; omega)) (fun k hk => Nat.ne_of_lt hk)⟩, Below.grown HBW.out HSG.out.2 HBW.out.size (fun q hq => by obtain rfl := Option.some.inj hq; have h1 := HGX.out; have h2 := HG5.out; have h3 := HB1.out.size; omega)⟩⟩⟩
     have h := HSG.out.1
     have h2 := HT0.out
     subst h2
     exact h
  · skip
    have HVE := Aside0.mk h8
    have q0 : ((v : Int) == 0) = false := beq_eq_false_iff_ne.2 (by omega)
    have q1 : ((v : Int) == 1) = false := beq_eq_false_iff_ne.2 (by omega)
    have q2 : ((v : Int) == 2) = true := beq_iff_eq.2 (by omega)
    clear h8 hv8
    obtain ⟨csa, _, hFKa, hcca, hfza⟩ := Kd.N_elem HX.out (⟨⟨#[]⟩, 0, 0, ⟨0, [], []⟩⟩ : Tok) (0 : Int) (by decide) (by omega)
    have hza : T.getD (0 : Int).toNat ⟨⟨#[]⟩, 0, 0, ⟨0, [], []⟩⟩ = ⟨⟨#[97]⟩, 0, 1, oneT 97⟩ := by show T.getD 0 _ = _; rw [List.getD_eq_getElem?_getD, HTA.out.1]; rfl
    rw [hza] at hFKa
    obtain ⟨A4a, c4a, A5a, c5a, rfl, l4a, g4a, l5a, g5a⟩ := k50_open (Kd.FK_now hFKa)
    have HEa := Aside0.mk hFKa
    have HCa := Aside0.mk hcca
    have HF4a := Aside0.mk (tok_f4 HEa.out)
    have HF5a := Aside0.mk (tok_f5 HEa.out)
    have HLa := Aside0.mk (And.intro l4a (And.intro g4a (And.intro l5a g5a)))
    have hsa : kTok.sz = 6 := rfl
    have HZa : Aside0 (∀ j, World.frozen? w4 ⟨gX, 0 + j, none⟩ = false) := ⟨fun j => by have h := hfza j; rw [hsa] at h; exact h⟩
    clear hcca hfza hza hFKa hsa l4a g4a l5a g5a
    have ya0 : World.cell? w4 ⟨gX, 2, none⟩ = some (.int .i64 1) := HCa.out 2 _ rfl
    have za0 : World.frozen? w4 ⟨gX, 2, none⟩ = false := HZa.out 2
    have HSG := Aside0.mk (Kd.N_seg HX.out (0 : Int) (by decide) (by omega) (c := [.string ⟨#[97]⟩, .int .i64 0, .int .i64 1, .int .i64 2, .slice A4a 1 c4a, .slice A5a 0 c5a]) (seg := [.int .i64 32]) (j := 2) rfl HCa.out (by decide) (x' := ⟨⟨#[97]⟩, 0, 32, oneT 97⟩) (k50_mkF w4 _ ⟨⟨#[97]⟩, 0, 32, oneT 97⟩ HLa.out.1 HF4a.out HLa.out.2.2.1 HF5a.out) (fun q hq => hq))
    go_wp2
    go_meet
    case rel =>
     rw [HVE.out]
     refine ⟨rfl, rfl, ⟨⟨?_, ⟨_, AR, cr, (HSG.out.2.block b5 (blk_lt HK54.out) (by have h1 := HGX.out; show ¬ some b5 = some gX; intro e; injection e; omega)).trans HK54.out, Kd.F_mono (Kd.F_grown HRF4.out HSG.out.2 (fun k hk => by have h1 := HGX.out; show ¬ some k = some gX; intro e; injection e; omega)) (fun k hk => Nat.ne_of_lt hk)⟩, Below.grown HBW.out HSG.out.2 HBW.out.size (fun q hq => by obtain rfl := Option.some.inj hq; have h1 := HGX.out; have h2 := HG5.out; have h3 := HB1.out.size; omega)⟩⟩⟩
     have h := HSG.out.1
     have h2 := HT0.out
     subst h2
     exact h
  · skip
    have HVE := Aside0.mk h8
    have q0 : ((v : Int) == 0) = false := beq_eq_false_iff_ne.2 (by omega)
    have q1 : ((v : Int) == 1) = false := beq_eq_false_iff_ne.2 (by omega)
    have q2 : ((v : Int) == 2) = false := beq_eq_false_iff_ne.2 (by omega)
    have q3 : ((v : Int) == 3) = true := beq_iff_eq.2 (by omega)
    clear h8 hv8
    obtain ⟨csa, _, hFKa, hcca, hfza⟩ := Kd.N_elem HX.out (⟨⟨#[]⟩, 0, 0, ⟨0, [], []⟩⟩ : Tok) (1 : Int) (by decide) (by omega)
    have hza : T.getD (1 : Int).toNat ⟨⟨#[]⟩, 0, 0, ⟨0, [], []⟩⟩ = ⟨⟨#[98]⟩, 0, 2, ⟨2, [⟨10, 10⟩, ⟨98, 98⟩], []⟩⟩ := by show T.getD 1 _ = _; rw [List.getD_eq_getElem?_getD, HTA.out.2.1]; rfl
    rw [hza] at hFKa
    obtain ⟨A4a, c4a, A5a, c5a, rfl, l4a, g4a, l5a, g5a⟩ := k50_open (Kd.FK_now hFKa)
    have HEa := Aside0.mk hFKa
    have HCa := Aside0.mk hcca
    have HF4a := Aside0.mk (tok_f4 HEa.out)
    have HF5a := Aside0.mk (tok_f5 HEa.out)
    have HLa := Aside0.mk (And.intro l4a (And.intro g4a (And.intro l5a g5a)))
    have hsa : kTok.sz = 6 := rfl
    have HZa : Aside0 (∀ j, World.frozen? w4 ⟨gX, 6 + j, none⟩ = false) := ⟨fun j => by have h := hfza j; rw [hsa] at h; exact h⟩
    clear hcca hfza hza hFKa hsa l4a g4a l5a g5a
    have ya3 : World.cell? w4 ⟨gX, 9, none⟩ = some (.int .i64 2) := HCa.out 3 _ rfl
    have ya4 : World.cell? w4 ⟨gX, 10, none⟩ = some (.slice A4a 2 c4a) := HCa.out 4 _ rfl
    have ya5 : World.cell? w4 ⟨gX, 11, none⟩ = some (.slice A5a 0 c5a) := HCa.out 5 _ rfl
    obtain ⟨wB, hwB⟩ : ∃ x, w4.alloc (.cells #[.int .i64 2, .slice A4a 2 c4a, .slice A5a 0 c5a] 48) = x := ⟨_, rfl⟩
    have HBB : Aside0 (Below w4.heap.size w4 wB) := ⟨hwB ▸ below1 _ _⟩
    have HBK : Aside0 (wB.heap[w4.heap.size]? = some (.cells #[.int .i64 2, .slice A4a 2 c4a, .slice A5a 0 c5a] 48 (0, 0))) := ⟨by rw [← hwB]; exact blk_new _ _⟩
    have HXB := Aside0.mk (Kd.N_below HX.out HBB.out)
    have HKB := Aside0.mk (blk_below HK54.out HBB.out)
    have HRB := Aside0.mk (Kd.F_below HRF4.out HBB.out)
    have HWB := Aside0.mk (join_below HBW.out HBB.out)
    obtain ⟨_, _, _, _, hfz⟩ := Kd.N_elem HXB.out (⟨⟨#[]⟩, 0, 0, ⟨0, [], []⟩⟩ : Tok) (1 : Int) (by decide) (by omega)
    have hs : kTok.sz = 6 := rfl
    rw [hs] at hfz
    have yb3 : World.cell? wB ⟨gX, 9, none⟩ = some (.int .i64 2) := cell_after HBB.out (HCa.out 3 _ rfl)
    have zb3 : World.frozen? wB ⟨gX, 9, none⟩ = false := hfz 3
    have yb4 : World.cell? wB ⟨gX, 10, none⟩ = some (.slice A4a 2 c4a) := cell_after HBB.out (HCa.out 4 _ rfl)
    have zb4 : World.frozen? wB ⟨gX, 10, none⟩ = false := hfz 4
    have yb5 : World.cell? wB ⟨gX, 11, none⟩ = some (.slice A5a 0 c5a) := cell_after HBB.out (HCa.out 5 _ rfl)
    have zb5 : World.frozen? wB ⟨gX, 11, none⟩ = false := hfz 5
    clear hfz hs
    have HRE : Aside0 (Kd.FK k48 wB (fun q => q ≠ b5 ∧ q ≠ gX) ⟨2, [⟨10, 10⟩, ⟨98, 98⟩], []⟩ [.int .i64 2, .slice A4a 2 c4a, .slice A5a 0 c5a]) := ⟨k48_mkF wB _ ⟨2, [⟨10, 10⟩, ⟨98, 98⟩], []⟩ HLa.out.1 (Kd.F_below HF4a.out HBB.out) HLa.out.2.2.1 (Kd.F_below HF5a.out HBB.out)⟩
    have HSG := Aside0.mk (Kd.N_seg HXB.out (1 : Int) (by decide) (by omega) (c := [.string ⟨#[98]⟩, .int .i64 0, .int .i64 2, .int .i64 2, .slice A4a 2 c4a, .slice A5a 0 c5a]) (seg := [.int .i64 5, .slice none 0 0, .slice (some ⟨w4.heap.size, 0, none⟩) 1 1]) (j := 3) rfl (fun i u hu => cell_after HBB.out (HCa.out i u hu)) (Nat.le_refl _) (x' := ⟨⟨#[98]⟩, 0, 2, ⟨5, [], [⟨2, [⟨10, 10⟩, ⟨98, 98⟩], []⟩]⟩⟩) (k50_mkF wB (fun q => q = w4.heap.size ∨ (q ≠ b5 ∧ q ≠ gX)) ⟨⟨#[98]⟩, 0, 2, ⟨5, [], [⟨2, [⟨10, 10⟩, ⟨98, 98⟩], []⟩]⟩⟩ (Nat.le_refl 0) (Kd.F_nil _ _ _) (Nat.le_refl 1) (f_one HBK.out rfl HRE.out)) (fun q hq => by have h1 := HGX.out; rcases hq with hq | hq; (· rw [hq]; exact ⟨by omega, by omega⟩); (· exact hq)))
    go_wp2_with (rw [hwB])
    go_meet
    case rel =>
     rw [HVE.out]
     refine ⟨rfl, rfl, ⟨⟨?_, ⟨_, AR, cr, (HSG.out.2.block b5 (blk_lt HKB.out) (by have h1 := HGX.out; show ¬ some b5 = some gX; intro e; injection e; omega)).trans HKB.out, Kd.F_mono (Kd.F_grown HRB.out HSG.out.2 (fun k hk => by have h1 := HGX.out; show ¬ some k = some gX; intro e; injection e; omega)) (fun k hk => Nat.ne_of_lt hk)⟩, Below.grown HWB.out HSG.out.2 HWB.out.size (fun q hq => by obtain rfl := Option.some.inj hq; have h1 := HGX.out; have h2 := HG5.out; have h3 := HB1.out.size; omega)⟩⟩⟩
     have h := HSG.out.1
     have h2 := HT0.out
     subst h2
     exact h
  · skip
    have HVE := Aside0.mk h8
    have q0 : ((v : Int) == 0) = false := beq_eq_false_iff_ne.2 (by omega)
    have q1 : ((v : Int) == 1) = false := beq_eq_false_iff_ne.2 (by omega)
    have q2 : ((v : Int) == 2) = false := beq_eq_false_iff_ne.2 (by omega)
    have q3 : ((v : Int) == 3) = false := beq_eq_false_iff_ne.2 (by omega)
    have q4 : ((v : Int) == 4) = true := beq_iff_eq.2 (by omega)
    clear h8 hv8
    obtain ⟨wa, hwa⟩ : ∃ x, World.alloc w4 (.cells #[.string ⟨#[110, 111, 98, 111, 100, 121]⟩] 9) = x := ⟨_, rfl⟩
    have hz0 : wa.heap.size = w4.heap.size + 1 := by rw [← hwa]; simp
    have HBQ0 : Aside0 (Below w4.heap.size w4 wa) := ⟨hwa ▸ below1 _ _⟩
    have hk0 : wa.heap[w4.heap.size]? = some (.cells #[.string ⟨#[110, 111, 98, 111, 100, 121]⟩] 9 (0, 0)) := by rw [← hwa]; exact blk_new _ _
    have HK_0 := Aside0.mk hk0
    obtain ⟨wb, hwb⟩ : ∃ x, World.alloc wa (.cells #[.slice none 0 0, .int .i64 2, .slice (some ⟨w4.heap.size, 0, none⟩) 1 1, .slice none 0 0, .slice none 0 0] 39) = x := ⟨_, rfl⟩
    have hz1 : wb.heap.size = w4.heap.size + 2 := by rw [← hwb]; simp [hz0]
    have HBQ1 : Aside0 (Below wa.heap.size wa wb) := ⟨hwb ▸ below1 _ _⟩
    have hk1 : wb.heap[wa.heap.size]? = some (.cells #[.slice none 0 0, .int .i64 2, .slice (some ⟨w4.heap.size, 0, none⟩) 1 1, .slice none 0 0, .slice none 0 0] 39 (0, 0)) := by rw [← hwb]; exact blk_new _ _
    rw [hz0] at hk1
    have HK_1 := Aside0.mk hk1
    obtain ⟨wc, hwc⟩ : ∃ x, World.alloc wb (.cells #[.int .i64 0, .bool false, .slice (some ⟨w4.heap.size + 1, 0, none⟩) 1 1] 32) = x := ⟨_, rfl⟩
    have hz2 : wc.heap.size = w4.heap.size + 3 := by rw [← hwc]; simp [hz1]
    have HBQ2 : Aside0 (Below wb.heap.size wb wc) := ⟨hwc ▸ below1 _ _⟩
    have hk2 : wc.heap[wb.heap.size]? = some (.cells #[.int .i64 0, .bool false, .slice (some ⟨w4.heap.size + 1, 0, none⟩) 1 1] 32 (0, 0)) := by rw [← hwc]; exact blk_new _ _
    rw [hz1] at hk2
    have HK_2 := Aside0.mk hk2
    have HBA : Aside0 (Below w4.heap.size w4 wc) := ⟨join_below HBQ0.out (join_below HBQ1.out HBQ2.out)⟩
    have HK_0 := Aside0.mk (blk_below HK_0.out (join_below HBQ1.out HBQ2.out))
    have HK_1 := Aside0.mk (blk_below HK_1.out HBQ2.out)
    have HK_2 := Aside0.mk (HK_2.out)
    have HSt : Aside0 (Kd.F Kd.string wc (fun q => q = w4.heap.size ∨ False) (some ⟨w4.heap.size, 0, none⟩) 1 [⟨#[110, 111, 98, 111, 100, 121]⟩]) := ⟨f_one HK_0.out rfl (fun _ _ => rfl)⟩
    have HSp : Aside0 (Kd.F k39 wc (fun q => q = w4.heap.size + 1 ∨ (q = w4.heap.size ∨ False)) (some ⟨w4.heap.size + 1, 0, none⟩) 1 [⟨[], ⟨2, [⟨#[110, 111, 98, 111, 100, 121]⟩], [], []⟩⟩]) := ⟨f_one HK_1.out rfl (k39_mkF wc _ ⟨[], ⟨2, [⟨#[110, 111, 98, 111, 100, 121]⟩], [], []⟩⟩ (Nat.le_refl 0) (Kd.F_nil _ _ _) (Nat.le_refl 1) HSt.out (Nat.le_refl 0) (Kd.F_nil _ _ _) (Nat.le_refl 0) (Kd.F_nil _ _ _))⟩
    have HNR : Aside0 (Kd.N kRul 32 wc w4.heap.size (fun k => k ≠ b5) (.slice (some ⟨w4.heap.size + 2, 0, none⟩) 1 1) [⟨0, false, [⟨[], ⟨2, [⟨#[110, 111, 98, 111, 100, 121]⟩], [], []⟩⟩]⟩]) := ⟨n_one (c := [.int .i64 0, .bool false, .slice (some ⟨w4.heap.size + 1, 0, none⟩) 1 1]) HK_2.out rfl rfl (k32_mkF wc (fun q => q = w4.heap.size + 1 ∨ (q = w4.heap.size ∨ False)) ⟨0, false, [⟨[], ⟨2, [⟨#[110, 111, 98, 111, 100, 121]⟩], [], []⟩⟩]⟩ (Nat.le_refl 1) HSp.out) (by omega) (by have := HGX.out; omega) (fun q hq => by have h1 := HGX.out; rcases hq with hq | hq | hq; (· rw [hq]; exact ⟨by omega, by omega⟩); (· rw [hq]; exact ⟨by omega, by omega⟩); (· exact hq.elim))⟩
    have HRA := Aside0.mk (Kd.F_below HRF4.out HBA.out)
    have y1 : World.cell? (World.alloc (World.alloc (World.alloc w4 (.cells #[.string ⟨#[110, 111, 98, 111, 100, 121]⟩] 9)) (.cells #[.slice none 0 0, .int .i64 2, .slice (some ⟨w4.heap.size, 0, none⟩) 1 1, .slice none 0 0, .slice none 0 0] 39)) (.cells #[.int .i64 0, .bool false, .slice (some ⟨w4.heap.size + 1, 0, none⟩) 1 1] 32)) ⟨b5, 1, none⟩ = some (.slice AR R.length cr) := by rw [hwa, hwb, hwc]; exact cell_after HBA.out ((blk_cell HK54.out 1).trans rfl)
    have HEwa := Aside0.mk hwa
    have HEwb := Aside0.mk hwb
    have HEwc := Aside0.mk hwc
    clear hz0 hk0 hz1 hk1 hz2 hk2 hwa hwb hwc
    go_wp2_with ((with_reducible refine gate_builtin (b := .append) (xs := #[.tmp 69, .tmp 71]) rfl ?_); (try rw [HEwa.out, HEwb.out, HEwc.out]); refine Kd.N_append_rows kRul (w0 := w4) w4.heap.size ?hg (.tmp 69) (.tmp 71) 24 32 (.agg #[.int .i64 0, .bool false, .slice none 0 0]) 40 rfl ?ht (by kernel_rfl) rfl (by decide) (by decide) (.slice (some ⟨w4.heap.size + 2, 0, none⟩) 1 1) [⟨0, false, [⟨[], ⟨2, [⟨#[110, 111, 98, 111, 100, 121]⟩], [], []⟩⟩]⟩] R AR R.length cr (fun k => k ≠ b5) (fun k => k < b5) ?hs ?hx HNR.out HRA.out (fun k hk => ⟨by omega, by have h1 := HGX.out; show ¬ some k = some (w4.heap.size + 2); intro e; injection e; omega⟩) (fun k hk => by have h1 := HGX.out; have h2 := HBA.out.size; omega) HBA.out HBA.out.size (by simp; omega) ?_; (case hg => rfl); (case ht => exact Tryd.underlying24); (case hs => first | rfl | (simp [Act.eval]; done)); (case hx => first | rfl | (simp [Act.eval]; done)); intro v9 w9 hN hB hgr hat; obtain ⟨A9, c9, hv9⟩ := Kd.N_slice hN; subst hv9; have HN9 := Aside0.mk hN; have HB9 := Aside0.mk hB; have y9 : w9.cell? ⟨b5, 1, none⟩ = some (.slice AR R.length cr) := (blk_cell (blk_below HK54.out hB) 1).trans rfl; have z9 := blk_frozen (blk_below HK54.out hB) 1; clear hN hB hgr hat y1)
    go_meet
    case rel =>
     rw [HVE.out]
     refine ⟨rfl, congrArg (fun n : Nat => Value.int .i64 (n : Int)) (congrArg List.length HT0.out.symm), ⟨⟨?_, ⟨_, A9, c9, blk_put (blk_below HK54.out HB9.out) 1 _ rfl, Kd.N_F (Kd.N_far HN9.out (p := ⟨b5, 1, none⟩) (fun k hk => hk) _)⟩, Below.setCell (join_below HBW.out HB9.out) (by have h1 := HG5.out; have h2 := HB1.out.size; show W.heap.size ≤ b5; omega) _⟩⟩⟩
     have h := Kd.N_far (Kd.N_below HX.out HB9.out) (p := ⟨b5, 1, none⟩) (fun k hk => hk) (.slice A9 (([⟨0, false, [⟨[], ⟨2, [⟨#[110, 111, 98, 111, 100, 121]⟩], [], []⟩⟩]⟩] : List Rul) ++ R).length c9)
     have h2 := HT0.out
     subst h2
     exact h
  · skip
    have HVE := Aside0.mk h8
    have q0 : ((v : Int) == 0) = false := beq_eq_false_iff_ne.2 (by omega)
    have q1 : ((v : Int) == 1) = false := beq_eq_false_iff_ne.2 (by omega)
    have q2 : ((v : Int) == 2) = false := beq_eq_false_iff_ne.2 (by omega)
    have q3 : ((v : Int) == 3) = false := beq_eq_false_iff_ne.2 (by omega)
    have q4 : ((v : Int) == 4) = false := beq_eq_false_iff_ne.2 (by omega)
    have q5 : ((v : Int) == 5) = true := beq_iff_eq.2 (by omega)
    clear h8 hv8
    obtain ⟨wa, hwa⟩ : ∃ x, World.alloc w4 (.cells #[.string ⟨#[111]⟩] 9) = x := ⟨_, rfl⟩
    have hz0 : wa.heap.size = w4.heap.size + 1 := by rw [← hwa]; simp
    have HBQ0 : Aside0 (Below w4.heap.size w4 wa) := ⟨hwa ▸ below1 _ _⟩
    have hk0 : wa.heap[w4.heap.size]? = some (.cells #[.string ⟨#[111]⟩] 9 (0, 0)) := by rw [← hwa]; exact blk_new _ _
    have HK_0 := Aside0.mk hk0
    obtain ⟨wb, hwb⟩ : ∃ x, World.alloc wa (.cells #[.slice none 0 0, .int .i64 2, .slice (some ⟨w4.heap.size, 0, none⟩) 1 1, .slice none 0 0, .slice none 0 0] 39) = x := ⟨_, rfl⟩
    have hz1 : wb.heap.size = w4.heap.size + 2 := by rw [← hwb]; simp [hz0]
    have HBQ1 : Aside0 (Below wa.heap.size wa wb) := ⟨hwb ▸ below1 _ _⟩
    have hk1 : wb.heap[wa.heap.size]? = some (.cells #[.slice none 0 0, .int .i64 2, .slice (some ⟨w4.heap.size, 0, none⟩) 1 1, .slice none 0 0, .slice none 0 0] 39 (0, 0)) := by rw [← hwb]; exact blk_new _ _
    rw [hz0] at hk1
    have HK_1 := Aside0.mk hk1
    obtain ⟨wc, hwc⟩ : ∃ x, World.alloc wb (.cells #[.int .i64 0, .bool false, .slice (some ⟨w4.heap.size + 1, 0, none⟩) 1 1] 32) = x := ⟨_, rfl⟩
    have hz2 : wc.heap.size = w4.heap.size + 3 := by rw [← hwc]; simp [hz1]
    have HBQ2 : Aside0 (Below wb.heap.size wb wc) := ⟨hwc ▸ below1 _ _⟩
    have hk2 : wc.heap[wb.heap.size]? = some (.cells #[.int .i64 0, .bool false, .slice (some ⟨w4.heap.size + 1, 0, none⟩) 1 1] 32 (0, 0)) := by rw [← hwc]; exact blk_new _ _
    rw [hz1] at hk2
    have HK_2 := Aside0.mk hk2
    have HBA : Aside0 (Below w4.heap.size w4 wc) := ⟨join_below HBQ0.out (join_below HBQ1.out HBQ2.out)⟩
    have HK_0 := Aside0.mk (blk_below HK_0.out (join_below HBQ1.out HBQ2.out))
    have HK_1 := Aside0.mk (blk_below HK_1.out HBQ2.out)
    have HK_2 := Aside0.mk (HK_2.out)
    have HSt : Aside0 (Kd.F Kd.string wc (fun q => q = w4.heap.size ∨ False) (some ⟨w4.heap.size, 0, none⟩) 1 [⟨#[111]⟩]) := ⟨f_one HK_0.out rfl (fun _ _ => rfl)⟩
    have HSp : Aside0 (Kd.F k39 wc (fun q => q = w4.heap.size + 1 ∨ (q = w4.heap.size ∨ False)) (some ⟨w4.heap.size + 1, 0, none⟩) 1 [⟨[], ⟨2, [⟨#[111]⟩], [], []⟩⟩]) := ⟨f_one HK_1.out rfl (k39_mkF wc _ ⟨[], ⟨2, [⟨#[111]⟩], [], []⟩⟩ (Nat.le_refl 0) (Kd.F_nil _ _ _) (Nat.le_refl 1) HSt.out (Nat.le_refl 0) (Kd.F_nil _ _ _) (Nat.le_refl 0) (Kd.F_nil _ _ _))⟩
    have HNR : Aside0 (Kd.N kRul 32 wc w4.heap.size (fun k => k ≠ b5) (.slice (some ⟨w4.heap.size + 2, 0, none⟩) 1 1) [⟨0, false, [⟨[], ⟨2, [⟨#[111]⟩], [], []⟩⟩]⟩]) := ⟨n_one (c := [.int .i64 0, .bool false, .slice (some ⟨w4.heap.size + 1, 0, none⟩) 1 1]) HK_2.out rfl rfl (k32_mkF wc (fun q => q = w4.heap.size + 1 ∨ (q = w4.heap.size ∨ False)) ⟨0, false, [⟨[], ⟨2, [⟨#[111]⟩], [], []⟩⟩]⟩ (Nat.le_refl 1) HSp.out) (by omega) (by have := HGX.out; omega) (fun q hq => by have h1 := HGX.out; rcases hq with hq | hq | hq; (· rw [hq]; exact ⟨by omega, by omega⟩); (· rw [hq]; exact ⟨by omega, by omega⟩); (· exact hq.elim))⟩
    have HRA := Aside0.mk (Kd.F_below HRF4.out HBA.out)
    have y1 : World.cell? (World.alloc (World.alloc (World.alloc w4 (.cells #[.string ⟨#[111]⟩] 9)) (.cells #[.slice none 0 0, .int .i64 2, .slice (some ⟨w4.heap.size, 0, none⟩) 1 1, .slice none 0 0, .slice none 0 0] 39)) (.cells #[.int .i64 0, .bool false, .slice (some ⟨w4.heap.size + 1, 0, none⟩) 1 1] 32)) ⟨b5, 1, none⟩ = some (.slice AR R.length cr) := by rw [hwa, hwb, hwc]; exact cell_after HBA.out ((blk_cell HK54.out 1).trans rfl)
    have HEwa := Aside0.mk hwa
    have HEwb := Aside0.mk hwb
    have HEwc := Aside0.mk hwc
    clear hz0 hk0 hz1 hk1 hz2 hk2 hwa hwb hwc
    go_wp2_with ((with_reducible refine gate_builtin (b := .append) (xs := #[.tmp 82, .tmp 84]) rfl ?_); (try rw [HEwa.out, HEwb.out, HEwc.out]); refine Kd.N_append_rows kRul (w0 := w4) w4.heap.size ?hg (.tmp 82) (.tmp 84) 24 32 (.agg #[.int .i64 0, .bool false, .slice none 0 0]) 40 rfl ?ht (by kernel_rfl) rfl (by decide) (by decide) (.slice (some ⟨w4.heap.size + 2, 0, none⟩) 1 1) [⟨0, false, [⟨[], ⟨2, [⟨#[111]⟩], [], []⟩⟩]⟩] R AR R.length cr (fun k => k ≠ b5) (fun k => k < b5) ?hs ?hx HNR.out HRA.out (fun k hk => ⟨by omega, by have h1 := HGX.out; show ¬ some k = some (w4.heap.size + 2); intro e; injection e; omega⟩) (fun k hk => by have h1 := HGX.out; have h2 := HBA.out.size; omega) HBA.out HBA.out.size (by simp; omega) ?_; (case hg => rfl); (case ht => exact Tryd.underlying24); (case hs => first | rfl | (simp [Act.eval]; done)); (case hx => first | rfl | (simp [Act.eval]; done)); intro v9 w9 hN hB hgr hat; obtain ⟨A9, c9, hv9⟩ := Kd.N_slice hN; subst hv9; have HN9 := Aside0.mk hN; have HB9 := Aside0.mk hB; have y9 : w9.cell? ⟨b5, 1, none⟩ = some (.slice AR R.length cr) := (blk_cell (blk_below HK54.out hB) 1).trans rfl; have z9 := blk_frozen (blk_below HK54.out hB) 1; clear hN hB hgr hat y1)
    go_meet
    case rel =>
     rw [HVE.out]
     refine ⟨rfl, congrArg (fun n : Nat => Value.int .i64 (n : Int)) (congrArg List.length HT0.out.symm), ⟨⟨?_, ⟨_, A9, c9, blk_put (blk_below HK54.out HB9.out) 1 _ rfl, Kd.N_F (Kd.N_far HN9.out (p := ⟨b5, 1, none⟩) (fun k hk => hk) _)⟩, Below.setCell (join_below HBW.out HB9.out) (by have h1 := HG5.out; have h2 := HB1.out.size; show W.heap.size ≤ b5; omega) _⟩⟩⟩
     have h := Kd.N_far (Kd.N_below HX.out HB9.out) (p := ⟨b5, 1, none⟩) (fun k hk => hk) (.slice A9 (([⟨0, false, [⟨[], ⟨2, [⟨#[111]⟩], [], []⟩⟩]⟩] : List Rul) ++ R).length c9)
     have h2 := HT0.out
     subst h2
     exact h
  · skip
    have HVE := Aside0.mk h8
    have q0 : ((v : Int) == 0) = false := beq_eq_false_iff_ne.2 (by omega)
    have q1 : ((v : Int) == 1) = false := beq_eq_false_iff_ne.2 (by omega)
    have q2 : ((v : Int) == 2) = false := beq_eq_false_iff_ne.2 (by omega)
    have q3 : ((v : Int) == 3) = false := beq_eq_false_iff_ne.2 (by omega)
    have q4 : ((v : Int) == 4) = false := beq_eq_false_iff_ne.2 (by omega)
    have q5 : ((v : Int) == 5) = false := beq_eq_false_iff_ne.2 (by omega)
    have q6 : ((v : Int) == 6) = true := beq_iff_eq.2 (by omega)
    clear h8 hv8
    obtain ⟨wa, hwa⟩ : ∃ x, World.alloc w4 (.cells #[.slice none 0 0, .int .i64 4, .slice none 0 0, .slice none 0 0, .slice none 0 0] 39) = x := ⟨_, rfl⟩
    have hz0 : wa.heap.size = w4.heap.size + 1 := by rw [← hwa]; simp
    have HBQ0 : Aside0 (Below w4.heap.size w4 wa) := ⟨hwa ▸ below1 _ _⟩
    have hk0 : wa.heap[w4.heap.size]? = some (.cells #[.slice none 0 0, .int .i64 4, .slice none 0 0, .slice none 0 0, .slice none 0 0] 39 (0, 0)) := by rw [← hwa]; exact blk_new _ _
    have HK_0 := Aside0.mk hk0
    obtain ⟨wb, hwb⟩ : ∃ x, World.alloc wa (.cells #[.int .i64 0, .bool true, .slice (some ⟨w4.heap.size, 0, none⟩) 1 1] 32) = x := ⟨_, rfl⟩
    have hz1 : wb.heap.size = w4.heap.size + 2 := by rw [← hwb]; simp [hz0]
    have HBQ1 : Aside0 (Below wa.heap.size wa wb) := ⟨hwb ▸ below1 _ _⟩
    have hk1 : wb.heap[wa.heap.size]? = some (.cells #[.int .i64 0, .bool true, .slice (some ⟨w4.heap.size, 0, none⟩) 1 1] 32 (0, 0)) := by rw [← hwb]; exact blk_new _ _
    rw [hz0] at hk1
    have HK_1 := Aside0.mk hk1
    have HBA : Aside0 (Below w4.heap.size w4 wb) := ⟨join_below HBQ0.out HBQ1.out⟩
    have HK_0 := Aside0.mk (blk_below HK_0.out HBQ1.out)
    have HK_1 := Aside0.mk (HK_1.out)
    have HSp : Aside0 (Kd.F k39 wb (fun q => q = w4.heap.size ∨ False) (some ⟨w4.heap.size, 0, none⟩) 1 [⟨[], ⟨4, [], [], []⟩⟩]) := ⟨f_one HK_0.out rfl (k39_mkF wb _ ⟨[], ⟨4, [], [], []⟩⟩ (Nat.le_refl 0) (Kd.F_nil _ _ _) (Nat.le_refl 0) (Kd.F_nil _ _ _) (Nat.le_refl 0) (Kd.F_nil _ _ _) (Nat.le_refl 0) (Kd.F_nil _ _ _))⟩
    have HNR : Aside0 (Kd.N kRul 32 wb w4.heap.size (fun k => k ≠ b5) (.slice (some ⟨w4.heap.size + 1, 0, none⟩) 1 1) [⟨0, true, [⟨[], ⟨4, [], [], []⟩⟩]⟩]) := ⟨n_one (c := [.int .i64 0, .bool true, .slice (some ⟨w4.heap.size, 0, none⟩) 1 1]) HK_1.out rfl rfl (k32_mkF wb (fun q => q = w4.heap.size ∨ False) ⟨0, true, [⟨[], ⟨4, [], [], []⟩⟩]⟩ (Nat.le_refl 1) HSp.out) (by omega) (by have := HGX.out; omega) (fun q hq => by have h1 := HGX.out; rcases hq with hq | hq; (· rw [hq]; exact ⟨by omega, by omega⟩); (· exact hq.elim))⟩
    have HRA := Aside0.mk (Kd.F_below HRF4.out HBA.out)
    have y1 : World.cell? (World.alloc (World.alloc w4 (.cells #[.slice none 0 0, .int .i64 4, .slice none 0 0, .slice none 0 0, .slice none 0 0] 39)) (.cells #[.int .i64 0, .bool true, .slice (some ⟨w4.heap.size, 0, none⟩) 1 1] 32)) ⟨b5, 1, none⟩ = some (.slice AR R.length cr) := by rw [hwa, hwb]; exact cell_after HBA.out ((blk_cell HK54.out 1).trans rfl)
    have HEwa := Aside0.mk hwa
    have HEwb := Aside0.mk hwb
    clear hz0 hk0 hz1 hk1 hwa hwb
    go_wp2_with ((with_reducible refine gate_builtin (b := .append) (xs := #[.tmp 94, .tmp 96]) rfl ?_); (try rw [HEwa.out, HEwb.out]); refine Kd.N_append_rows kRul (w0 := w4) w4.heap.size ?hg (.tmp 94) (.tmp 96) 24 32 (.agg #[.int .i64 0, .bool false, .slice none 0 0]) 40 rfl ?ht (by kernel_rfl) rfl (by decide) (by decide) (.slice (some ⟨w4.heap.size + 1, 0, none⟩) 1 1) [⟨0, true, [⟨[], ⟨4, [], [], []⟩⟩]⟩] R AR R.length cr (fun k => k ≠ b5) (fun k => k < b5) ?hs ?hx HNR.out HRA.out (fun k hk => ⟨by omega, by have h1 := HGX.out; show ¬ some k = some (w4.heap.size + 1); intro e; injection e; omega⟩) (fun k hk => by have h1 := HGX.out; have h2 := HBA.out.size; omega) HBA.out HBA.out.size (by simp; omega) ?_; (case hg => rfl); (case ht => exact Tryd.underlying24); (case hs => first | rfl | (simp [Act.eval]; done)); (case hx => first | rfl | (simp [Act.eval]; done)); intro v9 w9 hN hB hgr hat; obtain ⟨A9, c9, hv9⟩ := Kd.N_slice hN; subst hv9; have HN9 := Aside0.mk hN; have HB9 := Aside0.mk hB; have y9 : w9.cell? ⟨b5, 1, none⟩ = some (.slice AR R.length cr) := (blk_cell (blk_below HK54.out hB) 1).trans rfl; have z9 := blk_frozen (blk_below HK54.out hB) 1; clear hN hB hgr hat y1)
    go_meet
    case rel =>
     rw [HVE.out]
     refine ⟨rfl, congrArg (fun n : Nat => Value.int .i64 (n : Int)) (congrArg List.length HT0.out.symm), ⟨⟨?_, ⟨_, A9, c9, blk_put (blk_below HK54.out HB9.out) 1 _ rfl, Kd.N_F (Kd.N_far HN9.out (p := ⟨b5, 1, none⟩) (fun k hk => hk) _)⟩, Below.setCell (join_below HBW.out HB9.out) (by have h1 := HG5.out; have h2 := HB1.out.size; show W.heap.size ≤ b5; omega) _⟩⟩⟩
     have h := Kd.N_far (Kd.N_below HX.out HB9.out) (p := ⟨b5, 1, none⟩) (fun k hk => hk) (.slice A9 (([⟨0, true, [⟨[], ⟨4, [], [], []⟩⟩]⟩] : List Rul) ++ R).length c9)
     have h2 := HT0.out
     subst h2
     exact h
  · skip
    have HVE := Aside0.mk h8
    have q0 : ((v : Int) == 0) = false := beq_eq_false_iff_ne.2 (by omega)
    have q1 : ((v : Int) == 1) = false := beq_eq_false_iff_ne.2 (by omega)
    have q2 : ((v : Int) == 2) = false := beq_eq_false_iff_ne.2 (by omega)
    have q3 : ((v : Int) == 3) = false := beq_eq_false_iff_ne.2 (by omega)
    have q4 : ((v : Int) == 4) = false := beq_eq_false_iff_ne.2 (by omega)
    have q5 : ((v : Int) == 5) = false := beq_eq_false_iff_ne.2 (by omega)
    have q6 : ((v : Int) == 6) = false := beq_eq_false_iff_ne.2 (by omega)
    clear h8 hv8
    obtain ⟨wa, hwa⟩ : ∃ x, World.alloc w4 (.cells #[.int .i64 0, .bool false, .slice none 0 0] 32) = x := ⟨_, rfl⟩
    have hz0 : wa.heap.size = w4.heap.size + 1 := by rw [← hwa]; simp
    have HBQ0 : Aside0 (Below w4.heap.size w4 wa) := ⟨hwa ▸ below1 _ _⟩
    have hk0 : wa.heap[w4.heap.size]? = some (.cells #[.int .i64 0, .bool false, .slice none 0 0] 32 (0, 0)) := by rw [← hwa]; exact blk_new _ _
    have HK_0 := Aside0.mk hk0
    have HBA : Aside0 (Below w4.heap.size w4 wa) := ⟨HBQ0.out⟩
    have HK_0 := Aside0.mk (HK_0.out)
    have HNR : Aside0 (Kd.N kRul 32 wa w4.heap.size (fun k => k ≠ b5) (.slice (some ⟨w4.heap.size, 0, none⟩) 1 1) [⟨0, false, []⟩]) := ⟨n_one (c := [.int .i64 0, .bool false, .slice none 0 0]) HK_0.out rfl rfl (k32_mkF wa (fun q => False) ⟨0, false, []⟩ (Nat.le_refl 0) (Kd.F_nil _ _ _)) (by omega) (by have := HGX.out; omega) (fun q hq => by have h1 := HGX.out; exact hq.elim)⟩
    have HRA := Aside0.mk (Kd.F_below HRF4.out HBA.out)
    have y1 : World.cell? (World.alloc w4 (.cells #[.int .i64 0, .bool false, .slice none 0 0] 32)) ⟨b5, 1, none⟩ = some (.slice AR R.length cr) := by rw [hwa]; exact cell_after HBA.out ((blk_cell HK54.out 1).trans rfl)
    have HEwa := Aside0.mk hwa
    clear hz0 hk0 hwa
    go_wp2_with ((with_reducible refine gate_builtin (b := .append) (xs := #[.tmp 26, .tmp 28]) rfl ?_); (try rw [HEwa.out]); refine Kd.N_append_rows kRul (w0 := w4) w4.heap.size ?hg (.tmp 26) (.tmp 28) 24 32 (.agg #[.int .i64 0, .bool false, .slice none 0 0]) 40 rfl ?ht (by kernel_rfl) rfl (by decide) (by decide) (.slice (some ⟨w4.heap.size, 0, none⟩) 1 1) [⟨0, false, []⟩] R AR R.length cr (fun k => k ≠ b5) (fun k => k < b5) ?hs ?hx HNR.out HRA.out (fun k hk => ⟨by omega, by have h1 := HGX.out; show ¬ some k = some (w4.heap.size); intro e; injection e; omega⟩) (fun k hk => by have h1 := HGX.out; have h2 := HBA.out.size; omega) HBA.out HBA.out.size (by simp; omega) ?_; (case hg => rfl); (case ht => exact Tryd.underlying24); (case hs => first | rfl | (simp [Act.eval]; done)); (case hx => first | rfl | (simp [Act.eval]; done)); intro v9 w9 hN hB hgr hat; obtain ⟨A9, c9, hv9⟩ := Kd.N_slice hN; subst hv9; have HN9 := Aside0.mk hN; have HB9 := Aside0.mk hB; have y9 : w9.cell? ⟨b5, 1, none⟩ = some (.slice AR R.length cr) := (blk_cell (blk_below HK54.out hB) 1).trans rfl; have z9 := blk_frozen (blk_below HK54.out hB) 1; clear hN hB hgr hat y1)
    go_meet
    case rel =>
     rw [HVE.out]
     refine ⟨rfl, congrArg (fun n : Nat => Value.int .i64 (n : Int)) (congrArg List.length HT0.out.symm), ⟨⟨?_, ⟨_, A9, c9, blk_put (blk_below HK54.out HB9.out) 1 _ rfl, Kd.N_F (Kd.N_far HN9.out (p := ⟨b5, 1, none⟩) (fun k hk => hk) _)⟩, Below.setCell (join_below HBW.out HB9.out) (by have h1 := HG5.out; have h2 := HB1.out.size; show W.heap.size ≤ b5; omega) _⟩⟩⟩
     have h := Kd.N_far (Kd.N_below HX.out HB9.out) (p := ⟨b5, 1, none⟩) (fun k hk => hk) (.slice A9 (([⟨0, false, []⟩] : List Rul) ++ R).length c9)
     have h2 := HT0.out
     subst h2
     exact h
 obtain ⟨rfl, rfl, HMID⟩ := hcut
 have HLEN : Aside0 (T.length = (brkT ls.length v).length) := ⟨(Kd.N_reads' HMID.out.t).1⟩
 obtain ⟨u, A9, c9, hk9, hr9⟩ := HMID.out.g
 have HK9 := Aside0.mk hk9
 have HR9 := Aside0.mk hr9
 have HN9 := Aside0.mk HMID.out.t
 have HW9 := Aside0.mk HMID.out.b
 obtain ⟨w5, hw5⟩ : ∃ x, wc = x := ⟨_, rfl⟩
 rw [hw5] at HK9 HR9 HN9 HW9 ⊢
 clear hw5 hk9 hr9 HMID HK54 HRF4 HBW HX
 have y0 := (blk_cell HK9.out 0).trans rfl
 have z0 := blk_frozen HK9.out 0
 go_upto_region 30 with (fail)
 clear y0 z0
 obtain ⟨w6, hw6⟩ : ∃ x, World.setCell w5 ⟨b5, 0, none⟩ (.slice (some ⟨gX, 0, none⟩) T.length cX) = x := ⟨_, rfl⟩
 have HK6 : Aside0 (w6.heap[b5]? = some (.cells #[.slice (some ⟨gX, 0, none⟩) T.length cX, .slice A9 (brkR v R).length c9] 26 (0, 0))) := ⟨hw6 ▸ blk_put HK9.out 0 _ rfl⟩
 have HT6 : Aside0 (kTok.C w6 (some ⟨gX, 0, none⟩) (brkT ls.length v).length (brkT ls.length v)) := ⟨by have h := (Kd.N_reads' (Kd.N_far HN9.out (p := ⟨b5, 0, none⟩) (fun k hk => hk) (.slice (some ⟨gX, 0, none⟩) T.length cX))).2.2; rw [hw6] at h; exact h⟩
 have HR6 : Aside0 (kRul.C w6 A9 (brkR v R).length (brkR v R)) := ⟨by have h := Kd.F_now (Kd.F_far HR9.out (p := ⟨b5, 0, none⟩) (fun k hk => hk) (.slice (some ⟨gX, 0, none⟩) T.length cX)); rw [hw6] at h; exact h⟩
 have HW6 : Aside0 (Below W.heap.size W w6) := ⟨hw6 ▸ Below.setCell HW9.out (by have h1 := HG5.out; have h2 := HB1.out.size; show W.heap.size ≤ b5; omega) _⟩
 rw [hw6]
 clear hw6 HK9 HR9 HN9 HW9
 have HCB2 : Aside0 (ChkC (brkT ls.length v) (brkR v R) (brkC v) (brkN ls.length v)) := ⟨HR0.out ▸ HCB.out⟩
 have x0 : w6.cell? ⟨b5, 0, none⟩ = some (.slice (some ⟨gX, 0, none⟩) (brkT ls.length v).length cX) := HLEN.out ▸ (blk_cell HK6.out 0).trans rfl
 have x1 : w6.cell? ⟨b5, 1, none⟩ = some (.slice A9 (brkR v R).length c9) := (blk_cell HK6.out 1).trans rfl
 go_wp2_with fail
 refine (HCB2.out (some ⟨gX, 0, none⟩) cX A9 c9 w6 HT6.out HR6.out (Kd.C_below HO.out HW6.out)).mono ?_
 rintro e w7 ⟨rfl, hb⟩
 have HB7 := Aside0.mk hb
 clear hb x0 x1
 go_wp2_with fail
 refine (told_any chk_none chk_made chk_twice w7 (Kd.C_below HO.out (join_below HW6.out HB7.out))).mono ?_
 rintro e w8 ⟨rfl, hb⟩
 have HB8 := Aside0.mk (join_below HB7.out hb)
 clear hb
 go_wp2_with fail
 refine (HMK.out w8 (join_below HW6.out HB8.out)).mono ?_
 rintro e w9 ⟨v1, v2, rfl, hT, hR, hb⟩
 obtain ⟨BT, dt, rfl⟩ := Kd.N_slice hT
 obtain ⟨BR, dr, rfl⟩ := Kd.N_slice hR
 have HCT := Aside0.mk (Kd.N_reads' hT).2.2
 have HCR := Aside0.mk (Kd.N_reads' hR).2.2
 have HB9 := Aside0.mk (join_below HB8.out hb)
 clear hT hR hb
 go_wp2_with fail
 refine (gmay_any _ _ 0 0 HCG.out BT dt BR dr w9 HCT.out HCR.out (Kd.C_below HO.out (join_below HW6.out HB9.out))).mono ?_
 rintro e wA ⟨rfl, hb⟩
 have HBA := Aside0.mk (join_below HB9.out hb)
 have hKA := blk_below HK6.out HBA.out
 have x0 : wA.cell? ⟨b5, 0, none⟩ = some (.slice (some ⟨gX, 0, none⟩) (brkT ls.length v).length cX) := HLEN.out ▸ (blk_cell hKA 0).trans rfl
 have x1 : wA.cell? ⟨b5, 1, none⟩ = some (.slice A9 (brkR v R).length c9) := (blk_cell hKA 1).trans rfl
 rw [show ((0 : Int) == 0) = true from rfl]
 have hcc : (brkC v == brkC v) = true := beq_self_eq_true _
 have hcn : (brkN ls.length v == brkN ls.length v) = true := beq_self_eq_true _
 clear hb hKA
 go_wp2_with fail
 refine (gmay_any _ _ _ _ HCB2.out (some ⟨gX, 0, none⟩) cX A9 c9 wA (Kd.C_below HT6.out HBA.out) (Kd.C_below HR6.out HBA.out) (Kd.C_below HO.out (join_below HW6.out HBA.out))).mono ?_
 rintro e wB ⟨rfl, hb⟩
 rw [brk_neg ls.length v]
 have HBB := Aside0.mk (join_below HW6.out (join_below HBA.out hb))
 clear hb x0 x1 hcc hcn
 go_wp2
 go_ret
 exact ⟨rfl, HBB.out⟩
end Go.Proofs.YthdfmbmbjpmlaaaDoor.Rn
end
section
set_option linter.unusedVariables false
namespace Go.Proofs.YthdfmbmbjpmlaaaDoor.Rn
open Go Go.RowKit Go.Shelf Go.Lib Go.Proofs.YthdfmbmbjpmlaaaDoorW.PrintWords Go.ChangeShapes Go.WideShapes Go.ChangeAt
theorem own : ownKnob Tryd.prog.godebug = none := by kernel_rfl
theorem laidOut : laidOutB Tryd.prog = true := by kernel_rfl
theorem own_of {W : World} (h : VarReads Tryd.prog W "gobo/gram.own" Rows.laid_gobo_gram_own) : OwnAt W := by
 obtain ⟨g, t, cs, fuel, p, hg, hty, hvar, hd⟩ := h
 obtain rfl := Option.some.inj ((show Tryd.prog.globalNamed "gobo/gram.own" = some 0 by kernel_rfl).symm.trans hg)
 obtain rfl := Option.some.inj ((show (Tryd.prog.globals[0]?).map (·.type) = some 76 by kernel_rfl).symm.trans hty)
 have hc : Tryd.prog.cellsOf 9 = 1 := by kernel_rfl
 refine ⟨rfl, by decide, fun _ => ⟨_, rfl, fun j s hj => ?_⟩⟩
 have hj6 : j < 6 := (List.getElem?_eq_some_iff.1 hj).1
 obtain ⟨fuel', d, q, hdi, he⟩ := array_elem Tryd.underlying76 hd j hj6
 rw [hc] at he
 obtain ⟨u, hu, hx, _⟩ := DataW.trod_string Tryd.underlying9 he
 have hd1 : d = .lit (.string u.data.toList) := congrArg Prod.fst hx
 have hus : u = s := by
  rw [hd1] at hdi
  have key : u.data.toList = s.data.toList := by
   match j, hj, hdi with
   | 0, hj, hdi => obtain rfl := Option.some.inj hj; simpa [ownL] using hdi.symm
   | 1, hj, hdi => obtain rfl := Option.some.inj hj; simpa [ownL] using hdi.symm
   | 2, hj, hdi => obtain rfl := Option.some.inj hj; simpa [ownL] using hdi.symm
   | 3, hj, hdi => obtain rfl := Option.some.inj hj; simpa [ownL] using hdi.symm
   | 4, hj, hdi => obtain rfl := Option.some.inj hj; simpa [ownL] using hdi.symm
   | 5, hj, hdi => obtain rfl := Option.some.inj hj; simpa [ownL] using hdi.symm
   | n + 6, hj, _ => simp [ownL] at hj
  exact text_ext (by rw [text_data, text_data]; exact key)
 refine ⟨[.string s], rfl, rfl, fun i v hv => ?_⟩
 have hi : i = 0 := by
  cases i with
  | zero => rfl
  | succ n => simp at hv
 subst hi
 have hv' : v = .string s := by simpa using hv.symm
 subst hv'
 have e0 := congrArg (·[0]?) hu
 simp only [List.getElem?_take, List.getElem?_drop] at e0
 show W.cell? ((⟨0, 0, none⟩ : Addr).add (j * 1 + 0)) = _
 rw [add_at, Nat.zero_add, Nat.add_zero, World.var?_cell hg hvar (j * 1), ← Array.getElem?_toList]
 simpa [hus] using e0
theorem tabs_of {W : World} (hL : laidMet Tryd.prog [("gobo/gram.own", Rows.laid_gobo_gram_own)] W) : OwnAt W := own_of (Lib.laidMet.reads hL (.head _))
end Go.Proofs.YthdfmbmbjpmlaaaDoor.Rn
end
section
set_option linter.unusedVariables false
set_option linter.unusedSimpArgs false
namespace Go.Proofs.YthdfmbmbjpmlaaaDoor.Op
open Go Go.RowKit Go.Proofs.YthdfmbmbjpmlaaaDoorW.PrintWords Go.ChangeShapes Go.WideShapes Go.Deep
def At {α : Type} (P : Program) (fuel : Nat) (t : TypeId) (k : Kd α) (good : α → Prop) : Prop :=
 ∀ (H : Type) (enc : TypeId × Value → H) (W : World) (cs : List Value) (x : DataW H × List MemPlace), DataW.trod enc P W 0 (fun _ => true) true fuel t cs = some x → ∃ v : α, k.K W v cs ∧ good v
def Upto {α : Type} (P : Program) (fuel : Nat) (t : TypeId) (k : Kd α) (good : α → Prop) : Prop := ∀ n, n < fuel → At P n t k good
def All {α : Type} (P : Program) (t : TypeId) (k : Kd α) (good : α → Prop) : Prop := ∀ fuel, Upto P fuel t k good
theorem All.at {α : Type} {P : Program} {t : TypeId} {k : Kd α} {good : α → Prop} (h : All P t k good) (n : Nat) : At P n t k good := h (n + 1) n (Nat.lt_succ_self n)
theorem Upto.mono {α : Type} {P : Program} {t : TypeId} {k : Kd α} {good good' : α → Prop} {n : Nat} (h : Upto P n t k good) (hg : ∀ v, good v → good' v) : Upto P n t k good' := fun i hi H enc W cs x hx => by
 obtain ⟨v, h1, h2⟩ := h i hi H enc W cs x hx
 exact ⟨v, h1, hg v h2⟩
section
variable {P : Program} {n : Nat} {t : TypeId}
theorem list_of {α : Type} {len : Nat} {p : Nat → α → Prop} (h : ∀ i, i < len → ∃ v, p i v) : ∃ vs : List α, vs.length = len ∧ ∀ i v, vs[i]? = some v → p i v := by
 induction len with
 | zero => exact ⟨[], rfl, fun i v hv => by simp at hv⟩
 | succ m ih =>
  obtain ⟨vs, hl, hv⟩ := ih (fun i hi => h i (Nat.lt_succ_of_lt hi))
  obtain ⟨v, hp⟩ := h m (Nat.lt_succ_self m)
  refine ⟨vs ++ [v], by simp [hl], fun i u hu => ?_⟩
  by_cases c : i < vs.length
  · rw [List.getElem?_append_left c] at hu
    exact hv i u hu
  · rw [List.getElem?_append_right (by omega)] at hu
    obtain ⟨j, hj⟩ : ∃ j, i - vs.length = j := ⟨_, rfl⟩
    rw [hj] at hu
    cases j with
    | zero =>
     obtain rfl : v = u := by simpa using hu
     rw [show i = m by omega]
     exact hp
    | succ j => simp at hu
end
end Go.Proofs.YthdfmbmbjpmlaaaDoor.Op
end
section
set_option linter.unusedVariables false
namespace Go.Proofs.YthdfmbmbjpmlaaaDoor.Op
open Go Go.RowKit Go.Proofs.YthdfmbmbjpmlaaaDoorW.PrintWords
theorem one_le {H : Type} (d : DataW H) : 1 ≤ Rows.uptoBulk d := by
 cases d with
 | lit l => cases l <;> simp [Rows.uptoBulk]
 | nil => simp [Rows.uptoBulk]
 | ptr d => simp [Rows.uptoBulk]
 | slice elems spare => simp [Rows.uptoBulk]
 | agg parts => simp [Rows.uptoBulk]
 | iface t d => simp [Rows.uptoBulk]
 | map entries => simp [Rows.uptoBulk]
 | held h => simp [Rows.uptoBulk]
theorem part_le {H : Type} {d : DataW H} {l : List (DataW H)} (h : d ∈ l) : Rows.uptoBulk d ≤ Rows.uptoBulkAll l := by
 induction l with
 | nil => cases h
 | cons x r ih =>
  simp only [Rows.uptoBulkAll]
  cases List.mem_cons.1 h with
  | inl e => subst e; omega
  | inr e => have := ih e; omega
theorem length_le {H : Type} (l : List (DataW H)) : l.length ≤ Rows.uptoBulkAll l := by
 induction l with
 | nil => simp [Rows.uptoBulkAll]
 | cons x r ih => have := one_le x; simp only [Rows.uptoBulkAll, List.length_cons]; omega
theorem bound {H : Type} {l : List (DataW H)} (hk : Rows.uptoSmall H l = true) : Rows.uptoBulkAll l ≤ 1048576 := of_decide_eq_true hk
section
variable {P : Program} {t : TypeId} {n : Nat}
def AtB {α : Type} (P : Program) (fuel : Nat) (t : TypeId) (k : Kd α) (good : α → Nat → Prop) : Prop :=
 ∀ (H : Type) (enc : TypeId × Value → H) (W : World) (cs : List Value) (x : DataW H × List MemPlace), DataW.trod enc P W 0 (fun _ => true) true fuel t cs = some x → ∃ v : α, k.K W v cs ∧ good v (Rows.uptoBulk x.1)
theorem slice_cellsB {α : Type} {e : TypeId} {k : Kd α} {good : α → Nat → Prop} (ht : P.underlying t = some (.slice e)) (hs : P.cellsOf e = k.sz) (he : ∀ m, AtB P m e k good) {H : Type} {enc : TypeId × Value → H} {W : World} {cs : List Value} {x : DataW H × List MemPlace} (h : DataW.trod enc P W 0 (fun _ => true) true n t cs = some x) :
 ∃ (vs : List α) (A : Option Addr) (c : Nat), cs = [.slice A vs.length c] ∧ vs.length ≤ c ∧ c ≤ maxLen ∧ k.C W A vs.length vs ∧ vs.length ≤ Rows.uptoBulk x.1 ∧ ∀ v, v ∈ vs → ∃ b, good v b ∧ b ≤ Rows.uptoBulk x.1 := by
 rcases DataW.trod_slice ht h with ⟨rfl, _⟩ | ⟨a, len, cap, elems, rest, m, rfl, rfl, rfl, _, hl, hm, hlen, hel, _, _⟩
 · exact ⟨[], none, 0, rfl, Nat.le_refl _, by unfold maxLen; omega, ⟨rfl, by simp, fun h0 => absurd h0 (by simp)⟩, Nat.zero_le _, fun v hv => by cases hv⟩
 · have each : ∀ i, i < len → ∃ v, (∃ b, good v b ∧ b ≤ Rows.uptoBulkAll (elems.map (·.1))) ∧ ∃ c, c.length = k.sz ∧ k.K W v c ∧ ∀ j u, c[j]? = some u → W.cell? (a.add (i * k.sz + j)) = some u := fun i hi => by
    have hi2 := hel i hi
    rw [List.getElem?_eq_getElem (by omega)] at hi2
    obtain ⟨c, h1, h2⟩ := Option.bind_eq_some_iff.1 hi2
    obtain ⟨v, hk, hg⟩ := he m H enc W c _ h2
    obtain ⟨_, hcl, hcc⟩ := World.cells?_some h1
    rw [hs] at hcc
    refine ⟨v, ⟨_, hg, part_le (List.mem_map.2 ⟨_, List.getElem_mem (by omega), rfl⟩)⟩, c, k.K_len hk, hk, fun j u hu => ?_⟩
    have hj : j < c.length := (List.getElem?_eq_some_iff.1 hu).1
    have h4 := hcc j (by rw [k.K_len hk] at hj; exact hj)
    rw [Go.Deep.add_add] at h4
    rw [h4]
    exact hu
   obtain ⟨vs, hvl, hvs⟩ := list_of each
   have hm' : cap ≤ 9223372036854775807 := hm
   have hbl := length_le (elems.map (·.1))
   rw [List.length_map] at hbl
   refine ⟨vs, some a, cap, by rw [hvl], by omega, hm, ⟨rfl, by omega, fun h0 => ⟨a, rfl, fun j p hj => ?_⟩⟩, ?_, fun v hv => ?_⟩
   · obtain ⟨_, c, h1, h2, h3⟩ := hvs j p hj
     exact ⟨c, h1, h2, h3⟩
   · simp only [Rows.uptoBulk]
     omega
   · obtain ⟨i, hi, rfl⟩ := List.getElem_of_mem hv
     obtain ⟨b, hb, hle⟩ := (hvs i _ (List.getElem?_eq_getElem hi)).1
     refine ⟨b, hb, ?_⟩
     simp only [Rows.uptoBulk]
     omega
theorem rows_int {e eI : TypeId} (ht : P.underlying t = some (.slice e)) (hs : P.cellsOf e = 1) (he : P.underlying e = some (.slice eI)) (hI : P.underlying eI = some (.int .i64)) (hsI : P.cellsOf eI = 1) {H : Type} {enc : TypeId × Value → H} {W : World} {a : Option Addr} {len cap : Nat} {x : DataW H × List MemPlace} (h : DataW.trod enc P W 0 (fun _ => true) true n t [.slice a len cap] = some x) :
 ∃ vs : List (List Int), vs.length = len ∧ vs.length ≤ cap ∧ (Kd.slice eI (Kd.int .i64)).C W a vs.length vs ∧ ∀ v, v ∈ vs → v.length ≤ Rows.uptoBulk x.1 := by
 have h1 : ∀ m, AtB P m eI (Kd.int .i64) (fun _ _ => True) := fun m H enc W cs x hx => by
  obtain ⟨a, rfl, _, _⟩ := DataW.trod_int hI hx
  exact ⟨a, rfl, trivial⟩
 have h2 : ∀ m, AtB P m e (Kd.slice eI (Kd.int .i64)) (fun v b => v.length ≤ b) := fun m H enc W cs x hx => by
  obtain ⟨vs, A, c, rfl, hl, _, hc, hb, _⟩ := slice_cellsB he hsI h1 hx
  exact ⟨vs, ⟨A, c, rfl, hl, hc⟩, hb⟩
 obtain ⟨vs, A, c, hcs, h3, _, h4, _, h5⟩ := slice_cellsB ht hs h2 h
 simp only [List.cons.injEq, Value.slice.injEq, and_true] at hcs
 obtain ⟨rfl, rfl, rfl⟩ := hcs
 exact ⟨vs, rfl, h3, h4, fun v hv => by obtain ⟨b, hb, hle⟩ := h5 v hv; omega⟩
theorem F_all {eI A n} {W : World} {ls : List (List Int)} (h : (Kd.slice eI (Kd.int .i64)).C W A n ls) : Kd.F (Kd.slice eI (Kd.int .i64)) W (fun q => q < W.heap.size) A n ls := fun W' hW => by
 have hsz : W.heap.size ≤ W'.heap.size := by
  by_cases h0 : W.heap.size = 0
  · omega
  · have h1 := hW (W.heap.size - 1) (show W.heap.size - 1 < W.heap.size by omega) (by omega)
    have h2 := heap_lt h1 (by omega)
    omega
 have hb : Below W.heap.size W { W with heap := W'.heap } := ⟨rfl, rfl, rfl, hsz, fun k hk => hW k hk hk⟩
 have h2 : (Kd.slice eI (Kd.int .i64)).C { W with heap := W'.heap } A n ls := Kd.C_below h hb
 exact h2
end
end Go.Proofs.YthdfmbmbjpmlaaaDoor.Op
end
