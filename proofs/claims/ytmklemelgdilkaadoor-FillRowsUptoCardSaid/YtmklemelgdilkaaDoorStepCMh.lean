/- Layer 20: fill.Step, walked (printed by tools/genstepc.py). -/
import Derived.Test.YtmklemelgdilkaaDoorStepBMh
import Derived.Test.YtmklemelgdilkaaDoorRightPMh
import Derived.Test.YtmklemelgdilkaaDoorRuleCMh
namespace Go.Proofs.YtmklemelgdilkaaDoor
set_option linter.all false
attribute [local irreducible] Calls
attribute [local irreducible] wpStill
open Go.RowKit

theorem Tinfo_mk : (Tryd.prog.info? 59).map (fun i => (i.zero, i.size, i.bytes)) = some (some (.pointer none), 1, 8) := by kernel_rfl
theorem Tmake_mks (n : Nat) (hn : n ≤ 1000000000) (w : World) :
  (Instr.makeSlice 57 (.int .i64 (n : Int)) (.int .i64 (n : Int))).run Tryd.prog w = .ok (.slice (some ⟨w.heap.size, 0, none⟩) n n) (w.alloc (.cells (List.replicate n (Value.pointer none)).toArray 59)) := by
 obtain ⟨i, hi, hz, hsz, hb⟩ := info_parts Tinfo_mk
 have hr := run_make (P := Tryd.prog) w 57 59 i (.pointer none) Tryd.underlying57 hi hz .i64 .i64 (n : Int) (n : Int) (by omega) (Int.le_refl _) (by rw [hb]; omega) (by omega)
 rw [hsz] at hr
 have e : madeCells (Value.pointer none).cells ((n : Int).toNat * 1) = (List.replicate n (Value.pointer none)).toArray := by
  apply Array.ext'
  rw [Int.toNat_natCast, Nat.mul_one]
  show (madeCells #[.pointer none] n).toList = _
  rw [toList_madeCells_one]
 rw [e] at hr
 rw [hr]
 simp only [Int.toNat_natCast]
set_option maxRecDepth 100000 in
set_option maxHeartbeats 32000000 in
theorem fill_Step (rs : List RuleX) (hs : ∀ x ∈ rs, SmallR x.1) (l : List Prt) (sl : SmallL l) (P : List PkX) (sp : P.length ≤ 1048576 ∧ ∀ x ∈ P, x.1.2.2.length ≤ 1048576) (vr vl vp : Value) (w : World) (hT : Tabs w) (hM : MaxC w) (hr : RulesIn w vr rs) (hlr : PartRow w vl l) (hp : PicksIn w vp P) :
  Calls Tryd.prog 8 #[vr, vl, vp] w (stepPost (rs.map (·.1)) l (P.map (·.1)) w) := by
 obtain ⟨Q, hQ⟩ : ∃ Q, stepPost (rs.map (·.1)) l (P.map (·.1)) w = Q := ⟨_, rfl⟩
 have HQ : RowKit.Hid (∀ e w', stepPost (rs.map (·.1)) l (P.map (·.1)) w e w' → Q e w') := Lib.hid fun e w' h => by rw [← hQ]; exact h
 have HNO : RowKit.Hid (∀ w' (z : Int), stepZ (rs.map (·.1)) l (P.map (·.1)) = ([], z) → Below w.heap.size w w' → Q (.returned (.tuple #[.slice none 0 0, .slice none 0 0, .int .i64 z])) w') := Lib.hid fun w' z h hb => HQ.out _ _ (stepPost.no h hb)
 rw [hQ]
 clear hQ
 have hll := sl.1
 have hpl := sp.1
 have CC := Lib.hid (fill_check rs hs l hll vr vl w hT hM hr hlr)
 obtain ⟨ar, cr, rfl, hcr⟩ := hr.shape
 obtain ⟨ap, cp, rfl, hcp⟩ := hp.shape
 have HR := Lib.hid hr
 have HL := Lib.hid hlr
 have HP := Lib.hid hp
 have HS := Lib.hid hs
 have HSL := Lib.hid sl
 have HSP := Lib.hid sp
 have HMX := Lib.hid hM
 obtain ⟨la, lc, rfl, hlc⟩ := hlr.slice
 clear hr hlr hp hs sl sp hT hM
 go_enter Tryd.func8, Tryd.ntmps8
 go_wp2_with fail
 refine CC.out.mono ?_
 rintro e w1 ⟨rfl, hb1⟩
 have HB1 := Lib.hid hb1
 clear hb1 CC
 by_cases hz : findErr (rs.map (·.1)) l = 0
 case neg =>
  have HZ := Lib.hid (HNO.out w1 _ (by unfold stepZ; rw [if_pos hz]) HB1.out)
  have g1 : (findErr (rs.map (·.1)) l != 0) = true := by rw [bne_iff_ne]; exact hz
  have g2 : (findErr (rs.map (·.1)) l == 0) = false := by rw [beq_eq_false_iff_ne]; exact hz
  clear hz
  generalize findErr (rs.map (·.1)) l = z at *
  go_wp2_with fail
  exact HZ.out
 have HZ := Lib.hid hz
 have hwl := (findErr_zero.1 hz).1
 have HWL := Lib.hid hwl
 have CE := Lib.hid (fill_ends l (by omega) _ (well_rows hwl) _ w1 (HL.out.below HB1.out))
 obtain ⟨lb, lo, rfl, y1, y2, y3, y4⟩ := HL.out.at (Below.refl _ _) (well_zero hwl).1
 rw [hz]
 clear hz hwl y1 y2 y3 y4
 go_wp2_with fail
 refine CE.out.mono ?_
 intro e w2 h2
 unfold ends2Post at h2
 obtain ⟨ve, rfl, hb2, ho2⟩ := h2
 obtain ⟨ea, en, ec, rfl⟩ := owns_slice ho2
 obtain rfl : en = l.length := by
  obtain ⟨_, _, _, e, _⟩ := Row.of_owns ho2
  simp only [Value.slice.injEq] at e
  exact e.2.1
 obtain ⟨eb, rfl⟩ := ownsRow_some ho2 (well_zero HWL.out).1
 have HO2 := Lib.hid ho2
 have HB2 := Lib.hid (bthen HB1.out hb2)
 have hri : RowInts w2 (.slice (some ⟨eb, 0, none⟩) l.length ec) .i64 (endsL l) := RowInts.of_owns ho2
 have CU := Lib.hid (fill_ups l (by omega) HWL.out _ _ w2 (HL.out.below HB2.out) hri)
 clear hb2 ho2 CE hri
 go_wp2_with fail
 refine CU.out.mono ?_
 intro e w3 h3
 unfold fupsPost at h3
 obtain ⟨vu, rfl, hb3, ho3⟩ := h3
 obtain ⟨ua, un, uc, rfl⟩ := owns_slice ho3
 obtain rfl : un = l.length := by
  obtain ⟨_, _, _, e, _⟩ := Row.of_owns ho3
  simp only [Value.slice.injEq] at e
  exact e.2.1
 obtain ⟨ub, rfl⟩ := ownsRow_some ho3 (well_zero HWL.out).1
 have HO3 := Lib.hid ho3
 have HO2' := Lib.hid (owns_below HO2.out hb3)
 have HB3 := Lib.hid (bthen HB2.out hb3)
 clear hb3 ho3 CU HO2
 have hmk1 := Tmake_ints l.length (by omega)
 have hmk2 := Tmake_mks P.length (by omega)
 have HW6 : RowKit.Hid (∀ w4 w6, w4 = w3.alloc (.cells (Array.replicate l.length (Value.int .i64 0)) 3) → w6 = w4.alloc (.cells (Array.replicate P.length (Value.pointer none)) 59) → w4.heap.size = w3.heap.size + 1 ∧
   StF w w6 rs l P (.slice ar rs.length cr) (.slice (some ⟨lb, lo, none⟩) l.length lc) (.slice ap P.length cp) (.slice (some ⟨eb, 0, none⟩) l.length ec) (.slice (some ⟨ub, 0, none⟩) l.length uc) w3.heap.size (w3.heap.size + 1) ∧ St1 w3.heap.size (w3.heap.size + 1) w6 (moreL l []) [] P.length w6) := Lib.hid fun w4 w6 h4 h6 => by
  have s4 : w4.heap.size = w3.heap.size + 1 := by rw [h4]; simp
  have s6 : w6.heap.size = w3.heap.size + 2 := by rw [h6]; simp [s4]
  have b4 : Below w3.heap.size w3 w4 := by rw [h4]; exact (Below.refl _ _).alloc (Nat.le_refl _) _
  have b6 : Below w4.heap.size w4 w6 := by rw [h6]; exact (Below.refl _ _).alloc (Nat.le_refl _) _
  have b36 := bthen b4 b6
  have hbw : Below w.heap.size w w6 := bthen HB3.out b36
  have l3 := HB3.out.size
  have g4 : w4.heap[w3.heap.size]? = some (.cells (Array.replicate l.length (Value.int .i64 0)) 3 (0, 0)) := by rw [h4]; exact heap_alloc_new _ _
  have g6 : w6.heap[w3.heap.size + 1]? = some (.cells (Array.replicate P.length (Value.pointer none)) 59 (0, 0)) := by
   have := heap_alloc_new w4 (.cells (Array.replicate P.length (Value.pointer none)) 59)
   rw [s4] at this
   rw [h6]; exact this
  refine ⟨s4, ⟨HR.out, HL.out, HP.out, (RowInts.of_owns HO2'.out).below b36, (RowInts.of_owns HO3.out).below b36, fun b e => ?_, fun b e => ?_, hbw, l3, by omega, fun x hx => ⟨HS.out x hx, ?_⟩, HWL.out, HSL.out, HSP.out⟩, ⟨rfl, rfl, rfl, Nat.le_refl _, fun _ _ _ _ => rfl, ?_, ⟨_, g6, by simp, fun j hj => by simp at hj⟩, by omega, by omega, by omega⟩⟩
  ·have := (HO2'.out.lt b e).2; omega
  ·have := (HO3.out.lt b e).2; omega
  ·exact (findErr_zero.1 HZ.out).2.2 x.1 (List.mem_map.2 ⟨x, hx, rfl⟩)
  ·rw [keeps b6 g4, moreL_nil, List.map_replicate, List.toArray_replicate]
 go_upto_block 0 with (fail)
 rename_i hK'
 generalize hw4 : w3.alloc (.cells (Array.replicate l.length (Value.int .i64 0)) 3) = w4 at *
 generalize hw6 : w4.alloc (.cells (Array.replicate P.length (Value.pointer none)) 59) = w6 at *
 obtain ⟨hs4, hF, hSt⟩ := HW6.out w4 w6 rfl hw6.symm
 have hb36 : Below w.heap.size w w6 := hF.b6
 have HERR : RowKit.Hid (∀ (z : Int) w', stepErr (rs.map (·.1)) l (P.map (·.1)) 0 l.length = z → z ≠ 0 → Below w.heap.size w w' → Q (.returned (.tuple #[.slice none 0 0, .slice none 0 0, .int .i64 z])) w') := Lib.hid fun z w' h h0 hb => HNO.out w' z (by
  unfold stepZ
  rw [if_neg (by rw [HZ.out]; simp), if_pos (by show stepErr _ _ _ 0 _ ≠ 0; rw [h]; exact h0)]
  show ([], stepErr _ _ _ 0 _) = _
  rw [h]) hb
 exact st_loop1 _ _ _ _ _ _ _ _ _ _ _ _ _ _ _ _ _ _ _ _ _ _ _ _ _ _ _ _ _ _ _ _ _ _ _ _ _ _ _ _ _ _ _ _ _ _ _ _ _ _ _ _ _ _ _ _ _ _ _ _ _ _ _ _ _ _ _ _ _ _ _ _ _ _ _ _ _ _ _ _ _ _ _ _ _ _ _ _ _ _ _ _ _ _ _ _ _ _ _ _ _ _ _ _ _ _ _ _ _ _ _ _ _ _ _ _ _ _ _ _ _ _ _ _ _ _ _ _ _ _ _ _ _ _ _ _ _ _ _ _ _ _ _ _ _ _ _ _ _ _ _ _ _ _ _ _ _ _ _ _ _ _ _ _ _ _ _ _ _ _ _ _ _ _ _ _ _ _ _ _ _ _ _ _ _ _ _ _ _ _ _ _ _ _ _ _ _ _ _ _ _ _ _ _ _ _ _ _ _ _ _ _ _ _ _ _ _ _ _ rs l P ar cr lb lo lc ap cp eb 0 ec ub 0 uc w3.heap.size (w3.heap.size + 1) w w6 Q hF (Lib.hid hSt) HERR _ (Lib.hid (fun v3 v4 v5 v6 v7 v8 v9 v14 v16 v17 v18 v19 v20 v21 v22 v23 v24 v25 v26 v27 v28 v29 v30 v31 v32 v33 v34 v35 v36 v37 v38 v39 v40 v41 v42 v43 v44 v45 v46 v47 v48 v49 v50 v51 v52 v53 v54 v55 v56 v57 v58 v59 v60 v61 v62 v63 v64 v65 v66 v67 v68 v69 v70 v71 v72 v73 v74 v75 v76 v77 v78 v79 v80 v81 v82 v83 v84 v85 v86 v87 v88 v89 v90 v91 v92 v93 v94 v95 v96 v97 v98 v99 v100 v101 v102 v103 v104 v105 v106 v107 v108 v109 v110 v111 v112 v113 v114 v115 v116 v117 v118 v119 v120 v121 v122 v123 v124 v125 v126 v127 v128 v129 v130 v131 v132 v133 v134 v135 v136 v137 v138 v139 v140 v141 v142 v143 v144 v145 v146 v147 v148 v149 v150 v151 v152 v153 v154 v155 v156 v157 v158 v159 v160 v161 v162 v163 v164 v165 v166 v167 v168 v169 v170 v171 v172 v173 v174 v175 v176 v177 v178 v179 v180 v181 v182 v183 v184 v185 v186 v187 v188 v189 v190 v191 v192 v193 v194 v195 v196 v197 v198 v199 v200 v201 v202 v203 v204 v205 v206 v207 v208 v209 v210 v211 v212 v213 v214 v215 v216 v217 v218 v219 v220 v221 v222 v223 v224 v225 v226 v227 v228 v229 v230 size wr h1 h2 h3 => hK' _ _ (st_tail v3 v4 v5 v6 v7 v8 v9 v14 v16 v17 v18 v19 v20 v21 v22 v23 v24 v25 v26 v27 v28 v29 v30 v31 v32 v33 v34 v35 v36 v37 v38 v39 v40 v41 v42 v43 v44 v45 v46 v47 v48 v49 v50 v51 v52 v53 v54 v55 v56 v57 v58 v59 v60 v61 v62 v63 v64 v65 v66 v67 v68 v69 v70 v71 v72 v73 v74 v75 v76 v77 v78 v79 v80 v81 v82 v83 v84 v85 v86 v87 v88 v89 v90 v91 v92 v93 v94 v95 v96 v97 v98 v99 v100 v101 v102 v103 v104 v105 v106 v107 v108 v109 v110 v111 v112 v113 v114 v115 v116 v117 v118 v119 v120 v121 v122 v123 v124 v125 v126 v127 v128 v129 v130 v131 v132 v133 v134 v135 v136 v137 v138 v139 v140 v141 v142 v143 v144 v145 v146 v147 v148 v149 v150 v151 v152 v153 v154 v155 v156 v157 v158 v159 v160 v161 v162 v163 v164 v165 v166 v167 v168 v169 v170 v171 v172 v173 v174 v175 v176 v177 v178 v179 v180 v181 v182 v183 v184 v185 v186 v187 v188 v189 v190 v191 v192 v193 v194 v195 v196 v197 v198 v199 v200 v201 v202 v203 v204 v205 v206 v207 v208 v209 v210 v211 v212 v213 v214 v215 v216 v217 v218 v219 v220 v221 v222 v223 v224 v225 v226 v227 v228 v229 v230 size wr rs l P ar cr lb lo lc ap cp eb 0 ec ub 0 uc w3.heap.size (w3.heap.size + 1) w w6 Q hF h1 h2 h3 HZ.out (HMX.out.below (h3.toBelow hb36 hF.g1 hF.g2)) HQ)))
end Go.Proofs.YtmklemelgdilkaaDoor
