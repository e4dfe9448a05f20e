/- Layer 20: the loop of Step over the picks, walked (printed by tools/genstepa.py). -/
import Derived.Test.YtmklemelgdilkaaDoorMakeMg
import Derived.Test.YtmklemelgdilkaaDoorRuleCMg
import Derived.Test.YtmklemelgdilkaaDoorKpMMg
import Derived.StillTailTactics
namespace Go.Proofs.YtmklemelgdilkaaDoor
set_option linter.all false
attribute [local irreducible] Calls
attribute [local irreducible] wpStill
open Go.RowKit

structure StF (w w6 : World) (rs : List RuleX) (l : List Prt) (P : List PkX) (vr vl vp ve vu : Value) (gm gd : Nat) : Prop where
 R : RulesIn w vr rs
 L : PartRow w vl l
 K : PicksIn w vp P
 N : RowInts w6 ve .i64 (endsL l)
 U : RowInts w6 vu .i64 ((List.range l.length).map (upN l))
 nb : ∀ b, ve.ownBlock = some b → b ≠ gm ∧ b ≠ gd
 ub : ∀ b, vu.ownBlock = some b → b ≠ gm ∧ b ≠ gd
 b6 : Below w.heap.size w w6
 g1 : w.heap.size ≤ gm
 g2 : w.heap.size ≤ gd
 rz : ∀ x ∈ rs, SmallR x.1 ∧ ruleZ x.1 = 0
 wl : wellB l = true
 sl : SmallL l
 sp : P.length ≤ 1048576 ∧ ∀ x ∈ P, x.1.2.2.length ≤ 1048576
abbrev mksX (rs : List RuleX) (l : List Prt) (P : List PkX) : List Mk := mksOf (rs.map (·.1)) l (P.map (·.1))
def st1Rel (rs : List RuleX) (l : List Prt) (P : List PkX) (gm gd : Nat) (w6 : World) (fv sv nv : Value) (wr : World) : Prop :=
 ∃ (n free : Nat) (size : Int), nv = .int .i64 (n : Int) ∧ fv = .int .i64 (free : Int) ∧ sv = .int .i64 size ∧ n ≤ P.length ∧
  stepErr (rs.map (·.1)) l (P.map (·.1)) 0 l.length = stepErr (rs.map (·.1)) l ((P.drop n).map (·.1)) free size ∧
  -((n : Int) * 2097152) ≤ size ∧ size ≤ ((n : Int) + 1) * 2097152 ∧ (∀ p ∈ (mksX rs l P).take n, -1 ≤ p.2.2 ∧ p.2.2 ≤ 131072) ∧
  St1 gm gd w6 (moreL l ((mksX rs l P).take n)) (((mksX rs l P).take n).map (·.2.1)) P.length wr
theorem ints_cell {w w' : World} {b off n c : Nat} {p : List Int} (h : RowInts w (.slice (some ⟨b, off, none⟩) n c) .i64 p) (hb : Below w.heap.size w w') {i : Nat} {z : Int} (hi : p[i]? = some z) : n = p.length ∧ w'.cell? ⟨b, off + i, none⟩ = some (.int .i64 z) := by
 have hl := (List.getElem?_eq_some_iff.1 hi).1
 obtain ⟨b2, o2, e', y1, y2, hc⟩ := ints_at h hb (by omega)
 simp only [Option.some.injEq, Addr.mk.injEq, and_true] at e'
 obtain ⟨rfl, rfl⟩ := e'
 exact ⟨y1, hc _ _ hi⟩
def MtK (W : World) (g : Nat) (n x : Int) (v : Value) : Prop := W.heap[g]? = some (.cells #[.int .i64 n, .int .i64 x, v] 35 (0, 0))
theorem MtK.cells {W : World} {g : Nat} {n x : Int} {v : Value} (h : MtK W g n x v) : W.cell? ⟨g, 0, none⟩ = some (.int .i64 n) ∧ W.cell? ⟨g, 1, none⟩ = some (.int .i64 x) ∧ W.cell? ⟨g, 2, none⟩ = some v := by
 unfold MtK at h
 simp [World.cell?, h]
theorem MtK.keep {W W' : World} {g : Nat} {n x : Int} {v : Value} (h : MtK W g n x v) (hb : Below W.heap.size W W') : MtK W' g n x v := keeps hb h
noncomputable def stLoop1 : Code := sndN 1 (fstC (sndN 7 (Tryd.f8.body.getD .skip)))
set_option maxRecDepth 100000 in
set_option maxHeartbeats 32000000 in
theorem st_loop1 (u3 u4 u5 u6 u7 u8 u9 u16 u17 u18 u19 u20 u21 u22 u23 u24 u25 u26 u27 u28 u29 u30 u31 u32 u33 u34 u35 u36 u37 u38 u39 u40 u41 u42 u43 u47 u48 u49 u50 u51 u52 u53 u54 u55 u56 u57 u58 u59 u60 u61 u62 u63 u64 u65 u66 u67 u68 u69 u70 u71 u72 u73 u74 u75 u76 u77 u78 u79 u80 u81 u82 u83 u84 u85 u86 u87 u88 u89 u90 u91 u92 u93 u94 u95 u96 u97 u98 u99 u100 u101 u102 u103 u104 u105 u106 u107 u108 u109 u110 u111 u112 u113 u114 u115 u116 u117 u118 u119 u120 u121 u122 u123 u124 u125 u126 u127 u128 u129 u130 u131 u132 u133 u134 u135 u136 u137 u138 u139 u140 u141 u142 u143 u144 u145 u146 u147 u148 u149 u150 u151 u152 u153 u154 u155 u156 u157 u158 u159 u160 u161 u162 u163 u164 u165 u166 u167 u168 u169 u170 u171 u172 u173 u174 u175 u176 u177 u178 u179 u180 u181 u182 u183 u184 u185 u186 u187 u188 u189 u190 u191 u192 u193 u194 u195 u196 u197 u198 u199 u200 u201 u202 u203 u204 u205 u206 u207 u208 u209 u210 u211 u212 u213 u214 u215 u216 u217 u218 u219 u220 u221 u222 u223 u224 u225 u226 u227 u228 u229 u230 : Value) (rs : List RuleX) (l : List Prt) (P : List PkX) (ar : Option Addr) (cr : Nat) (lb lo lc : Nat) (ap : Option Addr) (cp : Nat) (eb eo ec ub uo uc gm gd : Nat) (w w6 : World) (Q : Ending → World → Prop)
  (F : StF w w6 rs l P (.slice ar rs.length cr) (.slice (some ⟨lb, lo, none⟩) l.length lc) (.slice ap P.length cp) (.slice (some ⟨eb, eo, none⟩) l.length ec) (.slice (some ⟨ub, uo, none⟩) l.length uc) gm gd)
  (HST6 : RowKit.Hid (St1 gm gd w6 (moreL l []) [] P.length w6))
  (HERR : RowKit.Hid (∀ (z : Int) w', stepErr (rs.map (·.1)) l (P.map (·.1)) 0 l.length = z → z ≠ 0 → Below w.heap.size w w' → Q (.returned (.tuple #[.slice none 0 0, .slice none 0 0, .int .i64 z])) w'))
  (K : Act → World → Prop)
  (HX : RowKit.Hid (∀ (v3 v4 v5 v6 v7 v8 v9 v14 v16 v17 v18 v19 v20 v21 v22 v23 v24 v25 v26 v27 v28 v29 v30 v31 v32 v33 v34 v35 v36 v37 v38 v39 v40 v41 v42 v43 v44 v45 v46 v47 v48 v49 v50 v51 v52 v53 v54 v55 v56 v57 v58 v59 v60 v61 v62 v63 v64 v65 v66 v67 v68 v69 v70 v71 v72 v73 v74 v75 v76 v77 v78 v79 v80 v81 v82 v83 v84 v85 v86 v87 v88 v89 v90 v91 v92 v93 v94 v95 v96 v97 v98 v99 v100 v101 v102 v103 v104 v105 v106 v107 v108 v109 v110 v111 v112 v113 v114 v115 v116 v117 v118 v119 v120 v121 v122 v123 v124 v125 v126 v127 v128 v129 v130 v131 v132 v133 v134 v135 v136 v137 v138 v139 v140 v141 v142 v143 v144 v145 v146 v147 v148 v149 v150 v151 v152 v153 v154 v155 v156 v157 v158 v159 v160 v161 v162 v163 v164 v165 v166 v167 v168 v169 v170 v171 v172 v173 v174 v175 v176 v177 v178 v179 v180 v181 v182 v183 v184 v185 v186 v187 v188 v189 v190 v191 v192 v193 v194 v195 v196 v197 v198 v199 v200 v201 v202 v203 v204 v205 v206 v207 v208 v209 v210 v211 v212 v213 v214 v215 v216 v217 v218 v219 v220 v221 v222 v223 v224 v225 v226 v227 v228 v229 v230 : Value) (size : Int) (wr : World), stepErr (rs.map (·.1)) l (P.map (·.1)) 0 l.length = (if 131072 < size then 2 else 0) → (∀ p ∈ mksX rs l P, -1 ≤ p.2.2 ∧ p.2.2 ≤ 131072) → St1 gm gd w6 (moreL l (mksX rs l P)) ((mksX rs l P).map (·.2.1)) P.length wr → K ⟨List.toArray (α := Value) (.slice ar rs.length cr :: .slice (some ⟨lb, lo, none⟩) l.length lc :: .slice ap P.length cp :: v3 :: v4 :: v5 :: v6 :: v7 :: v8 :: v9 :: .slice (some ⟨eb, eo, none⟩) l.length ec :: .slice (some ⟨ub, uo, none⟩) l.length uc :: .slice (some ⟨gm, 0, none⟩) l.length l.length :: .slice (some ⟨gd, 0, none⟩) P.length P.length :: v14 :: .int .i64 size :: v16 :: v17 :: v18 :: v19 :: v20 :: v21 :: v22 :: v23 :: v24 :: v25 :: v26 :: v27 :: v28 :: v29 :: v30 :: v31 :: v32 :: v33 :: v34 :: v35 :: v36 :: v37 :: v38 :: v39 :: v40 :: v41 :: v42 :: v43 :: v44 :: v45 :: v46 :: v47 :: v48 :: v49 :: v50 :: v51 :: v52 :: v53 :: v54 :: v55 :: v56 :: v57 :: v58 :: v59 :: v60 :: v61 :: v62 :: v63 :: v64 :: v65 :: v66 :: v67 :: v68 :: v69 :: v70 :: v71 :: v72 :: v73 :: v74 :: v75 :: v76 :: v77 :: v78 :: v79 :: v80 :: v81 :: v82 :: v83 :: v84 :: v85 :: v86 :: v87 :: v88 :: v89 :: v90 :: v91 :: v92 :: v93 :: v94 :: v95 :: v96 :: v97 :: v98 :: v99 :: v100 :: v101 :: v102 :: v103 :: v104 :: v105 :: v106 :: v107 :: v108 :: v109 :: v110 :: v111 :: v112 :: v113 :: v114 :: v115 :: v116 :: v117 :: v118 :: v119 :: v120 :: v121 :: v122 :: v123 :: v124 :: v125 :: v126 :: v127 :: v128 :: v129 :: v130 :: v131 :: v132 :: v133 :: v134 :: v135 :: v136 :: v137 :: v138 :: v139 :: v140 :: v141 :: v142 :: v143 :: v144 :: v145 :: v146 :: v147 :: v148 :: v149 :: v150 :: v151 :: v152 :: v153 :: v154 :: v155 :: v156 :: v157 :: v158 :: v159 :: v160 :: v161 :: v162 :: v163 :: v164 :: v165 :: v166 :: v167 :: v168 :: v169 :: v170 :: v171 :: v172 :: v173 :: v174 :: v175 :: v176 :: v177 :: v178 :: v179 :: v180 :: v181 :: v182 :: v183 :: v184 :: v185 :: v186 :: v187 :: v188 :: v189 :: v190 :: v191 :: v192 :: v193 :: v194 :: v195 :: v196 :: v197 :: v198 :: v199 :: v200 :: v201 :: v202 :: v203 :: v204 :: v205 :: v206 :: v207 :: v208 :: v209 :: v210 :: v211 :: v212 :: v213 :: v214 :: v215 :: v216 :: v217 :: v218 :: v219 :: v220 :: v221 :: v222 :: v223 :: v224 :: v225 :: v226 :: v227 :: v228 :: v229 :: v230 :: []), []⟩ wr)) :
  Code.wp Tryd.prog stLoop1 (Exit.then K (bodyPost Tryd.prog Tryd.f8 Q)) ⟨List.toArray (α := Value) (.slice ar rs.length cr :: .slice (some ⟨lb, lo, none⟩) l.length lc :: .slice ap P.length cp :: u3 :: u4 :: u5 :: u6 :: u7 :: u8 :: u9 :: .slice (some ⟨eb, eo, none⟩) l.length ec :: .slice (some ⟨ub, uo, none⟩) l.length uc :: .slice (some ⟨gm, 0, none⟩) l.length l.length :: .slice (some ⟨gd, 0, none⟩) P.length P.length :: .int .i64 0 :: .int .i64 (l.length : Int) :: u16 :: u17 :: u18 :: u19 :: u20 :: u21 :: u22 :: u23 :: u24 :: u25 :: u26 :: u27 :: u28 :: u29 :: u30 :: u31 :: u32 :: u33 :: u34 :: u35 :: u36 :: u37 :: u38 :: u39 :: u40 :: u41 :: u42 :: u43 :: .slice ap P.length cp :: .int .i64 (P.length : Int) :: .int .i64 0 :: u47 :: u48 :: u49 :: u50 :: u51 :: u52 :: u53 :: u54 :: u55 :: u56 :: u57 :: u58 :: u59 :: u60 :: u61 :: u62 :: u63 :: u64 :: u65 :: u66 :: u67 :: u68 :: u69 :: u70 :: u71 :: u72 :: u73 :: u74 :: u75 :: u76 :: u77 :: u78 :: u79 :: u80 :: u81 :: u82 :: u83 :: u84 :: u85 :: u86 :: u87 :: u88 :: u89 :: u90 :: u91 :: u92 :: u93 :: u94 :: u95 :: u96 :: u97 :: u98 :: u99 :: u100 :: u101 :: u102 :: u103 :: u104 :: u105 :: u106 :: u107 :: u108 :: u109 :: u110 :: u111 :: u112 :: u113 :: u114 :: u115 :: u116 :: u117 :: u118 :: u119 :: u120 :: u121 :: u122 :: u123 :: u124 :: u125 :: u126 :: u127 :: u128 :: u129 :: u130 :: u131 :: u132 :: u133 :: u134 :: u135 :: u136 :: u137 :: u138 :: u139 :: u140 :: u141 :: u142 :: u143 :: u144 :: u145 :: u146 :: u147 :: u148 :: u149 :: u150 :: u151 :: u152 :: u153 :: u154 :: u155 :: u156 :: u157 :: u158 :: u159 :: u160 :: u161 :: u162 :: u163 :: u164 :: u165 :: u166 :: u167 :: u168 :: u169 :: u170 :: u171 :: u172 :: u173 :: u174 :: u175 :: u176 :: u177 :: u178 :: u179 :: u180 :: u181 :: u182 :: u183 :: u184 :: u185 :: u186 :: u187 :: u188 :: u189 :: u190 :: u191 :: u192 :: u193 :: u194 :: u195 :: u196 :: u197 :: u198 :: u199 :: u200 :: u201 :: u202 :: u203 :: u204 :: u205 :: u206 :: u207 :: u208 :: u209 :: u210 :: u211 :: u212 :: u213 :: u214 :: u215 :: u216 :: u217 :: u218 :: u219 :: u220 :: u221 :: u222 :: u223 :: u224 :: u225 :: u226 :: u227 :: u228 :: u229 :: u230 :: []), []⟩ w6 := by
 unfold stLoop1
 conv => arg 2; whnf
 have hll := F.sl.1
 have hpl := F.sp.1
 have hmk : (mksX rs l P).length = P.length := by unfold mksX mksOf; simp
 go_wp2_with fail
 go_loopw [14, 15, 46] (fun fv sv nv wr => st1Rel rs l P gm gd w6 fv sv nv wr) (fun _ _ nv _ => P.length - (intOf nv).toNat)
 case atStart => exact ⟨0, 0, (l.length : Int), rfl, rfl, rfl, Nat.zero_le _, rfl, by omega, by omega, fun p hp => by simp at hp, by simpa using HST6.out⟩
 case round =>
  obtain ⟨n, free, size, rfl, rfl, rfl, hn, herr, hsz1, hsz2, hbd, hst⟩ := hrel
  have HST := Lib.hid hst
  have HE := Lib.hid herr
  have HBD := Lib.hid hbd
  have HBD2 := Lib.hid hbd
  clear hst herr hbd
  have HBW := Lib.hid (HST.out.toBelow F.b6 F.g1 F.g2)
  by_cases hlt : n < P.length
  case neg =>
   obtain rfl : n = P.length := by omega
   have h1 := HE.out
   rw [List.drop_length, List.map_nil, stepErr] at h1
   have h2 := HBD.out
   have h3 := HST.out
   rw [List.take_of_length_le (by omega)] at h2 h3
   have H1 := Lib.hid h1
   have H2 := Lib.hid h2
   have H3 := Lib.hid h3
   clear h1 h2 h3
   go_wp2_with fail
   exact HX.out _ _ _ _ _ _ _ _ _ _ _ _ _ _ _ _ _ _ _ _ _ _ _ _ _ _ _ _ _ _ _ _ _ _ _ _ _ _ _ _ _ _ _ _ _ _ _ _ _ _ _ _ _ _ _ _ _ _ _ _ _ _ _ _ _ _ _ _ _ _ _ _ _ _ _ _ _ _ _ _ _ _ _ _ _ _ _ _ _ _ _ _ _ _ _ _ _ _ _ _ _ _ _ _ _ _ _ _ _ _ _ _ _ _ _ _ _ _ _ _ _ _ _ _ _ _ _ _ _ _ _ _ _ _ _ _ _ _ _ _ _ _ _ _ _ _ _ _ _ _ _ _ _ _ _ _ _ _ _ _ _ _ _ _ _ _ _ _ _ _ _ _ _ _ _ _ _ _ _ _ _ _ _ _ _ _ _ _ _ _ _ _ _ _ _ _ _ _ _ _ _ _ _ _ _ _ _ _ _ _ _ _ _ _ _ _ _ _ _ _ _ _ _ size wr H1.out H2.out H3.out
  obtain ⟨pb, po, rfl, _, hpc⟩ := F.K.at HBW.out (show 0 < P.length by omega)
  obtain ⟨p0, p1, p2⟩ := hpc n hlt
  clear hpc
  have hdrop : P.drop n = P[n] :: P.drop (n + 1) := List.drop_eq_getElem_cons hlt
  have hmkn : (mksX rs l P)[n]'(by omega) = mkOf (rs.map (·.1)) l (P[n]).1 := by simp [mksX, mksOf]
  have hsb := F.sp.2 _ (List.getElem_mem hlt)
  have hbr := F.K.E _ (List.getElem_mem hlt)
  have HTK := Lib.hid (take_snocX (mksX rs l P) (show n < (mksX rs l P).length by omega))
  rw [hmkn] at HTK
  have he1 := HE.out
  rw [hdrop, List.map_cons] at he1
  generalize P[n] = x at *
  obtain ⟨⟨pn, px, bs⟩, vb⟩ := x
  simp only [] at p0 p1 p2 hsb hbr HTK he1
  obtain ⟨ab, cb, rfl, hcb⟩ := Row.shape hbr
  have HBR := Lib.hid hbr
  have HBR2 := Lib.hid hbr
  have hn0 : (0 : Int) ≤ (n : Int) := by omega
  have hnl : (n : Int) < P.length := by omega
  have hnc : (n : Int) < cp := by obtain ⟨a, c, e, h⟩ := F.K.shape; simp only [Value.slice.injEq] at e; omega
  have HX2 : RowKit.Hid (MtK (wr.alloc (.cells #[.int .i64 pn, .int .i64 px, .slice ab bs.length cb] 35)) wr.heap.size pn px (.slice ab bs.length cb)) := Lib.hid (heap_alloc_new _ _)
  have HST2 := Lib.hid (HST.out.below ((Below.refl wr.heap.size wr).alloc (Nat.le_refl _) (.cells #[.int .i64 pn, .int .i64 px, .slice ab bs.length cb] 35)))
  have HB2 := Lib.hid (HBW.out.alloc HBW.out.size (.cells #[.int .i64 pn, .int .i64 px, .slice ab bs.length cb] 35))
  have hERR1 := he1
  rw [stepErr] at hERR1
  have HE1 := Lib.hid hERR1
  clear hERR1 he1 hbr hdrop hmkn HE
  go_upto_region 12 with (fail)
  clear p0 p1 p2
  generalize wr.alloc (.cells #[.int .i64 pn, .int .i64 px, .slice ab bs.length cb] 35) = W2 at *
  have hgx : w6.heap.size ≤ wr.heap.size := HST.out.size
  generalize wr.heap.size = gx at *
  obtain ⟨x0, x1, x2⟩ := HX2.out.cells
  have hS1 : RowKit.Hid ((pn < 0 ∨ ((rs.map (·.1)).length : Int) ≤ pn ∨ px < (free : Int) ∨ (l.length : Int) ≤ px) → ∀ w', Below w.heap.size w w' → Q (.returned (.tuple #[.slice none 0 0, .slice none 0 0, .int .i64 1])) w') := Lib.hid fun h w' hb => HERR.out 1 w' (by rw [HE1.out, if_pos h]) (by decide) hb
  have HW2d := Lib.hid (HB2.out.drew)
  by_cases c1 : pn < 0
  case pos =>
   have HZ := Lib.hid (hS1.out (Or.inl c1) _ HW2d.out)
   go_still_tail 33, (by kernel_rfl)
   go_wp2_with fail
   exact HZ.out
  by_cases c2 : (rs.length : Int) ≤ pn
  case pos =>
   have HZ := Lib.hid (hS1.out (Or.inr (Or.inl (by rw [List.length_map]; exact c2))) _ HW2d.out)
   go_still_tail 33, (by kernel_rfl)
   go_wp2_with fail
   exact HZ.out
  by_cases c3 : px < (free : Int)
  case pos =>
   have HZ := Lib.hid (hS1.out (Or.inr (Or.inr (Or.inl c3))) _ HW2d.out)
   go_still_tail 33, (by kernel_rfl)
   go_wp2_with fail
   exact HZ.out
  by_cases c4 : (l.length : Int) ≤ px
  case pos =>
   have HZ := Lib.hid (hS1.out (Or.inr (Or.inr (Or.inr c4))) _ HW2d.out)
   go_still_tail 33, (by kernel_rfl)
   go_wp2_with fail
   exact HZ.out
  obtain ⟨rn, rfl⟩ : ∃ rn : Nat, pn = (rn : Int) := ⟨pn.toNat, by omega⟩
  obtain ⟨xn, rfl⟩ : ∃ xn : Nat, px = (xn : Int) := ⟨px.toNat, by omega⟩
  have hrn : rn < rs.length := by omega
  have hxl : xn < l.length := by omega
  have hE2 := HE1.out
  rw [if_neg (by rw [List.length_map]; omega)] at hE2
  simp only [Int.toNat_natCast, List.getElem?_map, List.getElem?_eq_getElem hrn, Option.map_some] at hE2
  obtain ⟨rb, ro, rfl, y1, y2, y3, hrc⟩ := F.R.at HB2.out (show 0 < rs.length by omega)
  obtain ⟨r0, r1, r2, r3, r4⟩ := hrc rn hrn
  clear hrc y1 y3
  have hrin := F.R.E _ (List.getElem_mem hrn)
  obtain ⟨hsr, hrz⟩ := F.rz _ (List.getElem_mem hrn)
  have HRC : RowKit.Hid (∀ W', Below w.heap.size w W' → W'.cell? ⟨rb, ro + rn * 5, none⟩ = some (.string (rs[rn]).1.nm) ∧ W'.cell? ⟨rb, ro + rn * 5 + 1, none⟩ = some (.int .u8 ((rs[rn]).1.goal : Int)) ∧ W'.cell? ⟨rb, ro + rn * 5 + 2, none⟩ = some (rs[rn]).2.1 ∧ W'.cell? ⟨rb, ro + rn * 5 + 3, none⟩ = some (rs[rn]).2.2.1 ∧ W'.cell? ⟨rb, ro + rn * 5 + 4, none⟩ = some (rs[rn]).2.2.2) := Lib.hid fun W' hb => by
   obtain ⟨b2, o2, e', _, _, _, hc⟩ := F.R.at hb (show 0 < rs.length by omega)
   simp only [Option.some.injEq, Addr.mk.injEq, and_true] at e'
   obtain ⟨rfl, rfl⟩ := e'
   exact hc rn hrn
  have hmkn : mkOf (rs.map (·.1)) l ((rn : Int), (xn : Int), bs) = (xn, outP (rs[rn]).1 l bs, treesP (rs[rn]).1 l bs - 1) := by
   have := mkOf_of (rules := rs.map (·.1)) (l := l) (n := (rn : Int)) (x := (xn : Int)) (bs := bs) (r := (rs[rn]).1) (by simp [hrn])
   rwa [Int.toNat_natCast] at this
  rw [hmkn] at HTK
  clear hmkn hS1
  generalize rs[rn] = y at *
  obtain ⟨r, vh, vf, vy⟩ := y
  simp only [] at r0 r1 r2 r3 r4 hrin hsr hrz HRC HTK hE2
  obtain ⟨ah, ch, rfl, hch⟩ := Row.shape hrin.H
  obtain ⟨af, cf, rfl, hcf⟩ := hrin.F.slice
  obtain ⟨ay, cy, rfl, hcy⟩ := hrin.B.slice
  have HRI := Lib.hid hrin
  have HSR := Lib.hid hsr
  have HRZ := Lib.hid hrz
  have HE2 := Lib.hid hE2
  have hkk : ∀ h ∈ r.holes, 1 ≤ h.2 ∧ h.2 ≤ 7 := fun h hh => by
   obtain ⟨i, hi, rfl⟩ := List.mem_iff_getElem.1 hh
   exact (holeB_inv hi ((ruleZ_inv HRZ.out).2.2.2.2.2.2.2 i hi)).2.2.1
  have HENW := Lib.hid (fun (W' : World) (hst : St1 gm gd w6 (moreL l ((mksX rs l P).take n)) (((mksX rs l P).take n).map (·.2.1)) P.length W') => hst.row F.N F.nb)
  have hell : (endsL l)[xn]? = some (endB l xn : Int) := endsL_get hxl
  have CR := Lib.hid (fill_right r hkk hsr.h.1 _ _ _ l F.sl _ (well_rows F.wl) _ _ _ bs hsb W2.drew (hrin.below HW2d.out) (F.L.below HW2d.out) (HENW.out _ (HST2.out.below (Below.refl _ _).drew)) (HBR.out.below HW2d.out))
  unfold ruleAgg at CR
  have hrn0 : (0 : Int) ≤ (rn : Int) := by omega
  have hrnl : (rn : Int) < rs.length := by omega
  have hrnc : (rn : Int) < cr := by omega
  clear hrin hsr hrz hE2 hkk HE1 HBR
  go_still_tail 33, (by kernel_rfl)
  go_wp2_with fail
  refine CR.out.mono ?_
  rintro e W4 ⟨rfl, hb4⟩
  have HB4 := Lib.hid (HW2d.out.trans (hb4.mono HW2d.out.size))
  have HST4 := Lib.hid ((HST2.out.below (Below.refl _ _).drew).below hb4)
  have HX4 := Lib.hid ((HX2.out.keep (Below.refl _ _).drew).keep hb4)
  clear hb4 CR x0 x1 x2 r0 r1 r2 r3 r4 HST2 HX2 HB2 HW2d
  cases hrt : rightB r l bs with
  | false =>
   have HZ := Lib.hid (HERR.out 1 W4 (by rw [HE2.out, if_pos hrt]) (by decide) HB4.out)
   clear hrt
   go_wp2_with fail
   exact HZ.out
  | true =>
  have HRT := Lib.hid hrt
  have hE3 := HE2.out
  rw [if_neg (by rw [hrt]; decide)] at hE3
  have HE3 := Lib.hid hE3
  clear hrt hE3 HE2
  go_upto_region 14 with (fail)
  obtain ⟨x0, x1, x2⟩ := HX4.out.cells
  obtain ⟨r0, r1, r2, r3, r4⟩ := HRC.out W4 HB4.out
  have HB5 := Lib.hid (HB4.out.drew)
  have HST5 := Lib.hid (HST4.out.below (Below.refl _ _).drew)
  have HX5 := Lib.hid (HX4.out.keep (Below.refl _ _).drew)
  go_still_tail 10, (by kernel_rfl)
  change wpList _ _ _ _ _ W4.drew
  clear x0 x1 x2 r0 r1 r2 r3 r4 HB4 HST4 HX4
  generalize W4.drew = W5 at *
  obtain ⟨E, hE⟩ : ∃ E : MkE, E = ⟨r, l, bs, W5.heap.size, W5.heap.size + 1, 61, .slice ah r.holes.length ch, .slice af r.fnd.length cf, .slice ay r.by'.length cy, .slice (some ⟨lb, lo, none⟩) l.length lc, .slice (some ⟨eb, eo, none⟩) l.length ec, .slice ab bs.length cb⟩ := ⟨_, rfl⟩
  have hFm : MkF W5 E := by
   subst hE
   exact ⟨(HRI.out.below HB5.out).H, (HRI.out.below HB5.out).B, F.L.below HB5.out, HENW.out W5 HST5.out, HBR2.out.below HB5.out, HSR.out, F.sl, HRZ.out, F.wl, HRT.out⟩
  have hIm : MkIn W5 E [] false (.slice none 0 0) (.slice none 0 0) (W5.alloc (.cells #[.string r.nm, .int .u8 (r.goal : Int), .slice ah r.holes.length ch, .slice af r.fnd.length cf, .slice ay r.by'.length cy, .slice (some ⟨lb, lo, none⟩) l.length lc, .slice (some ⟨eb, eo, none⟩) l.length ec, .slice ab bs.length cb, .slice none 0 0, .slice none 0 0, .bool false] 61)) := by
   subst hE
   exact ⟨(Below.refl _ _).alloc (Nat.le_refl _) _, heap_alloc_new _ _, World.ownsRow_nil _ _ _ _, World.ownsRow_nil _ _ _ _, Nat.le_refl _, Nat.lt_succ_self _, by simp⟩
  have CM := Lib.hid (mk_make W5 E hFm _ hIm)
  have HG : RowKit.Hid (E.g = W5.heap.size ∧ E.r = r ∧ E.l = l ∧ E.bs = bs) := Lib.hid (by subst hE; exact ⟨rfl, rfl, rfl, rfl⟩)
  rw [HG.out.1] at CM
  clear hFm hIm hE
  go_wp2_with fail
  refine CM.out.mono ?_
  intro e W7 h7
  unfold madePost at h7
  rw [HG.out.2.1, HG.out.2.2.1, HG.out.2.2.2] at h7
  obtain ⟨ov, fv, kz, rfl, hb7, hm7, hk7⟩ := h7
  have HST7 := Lib.hid (HST5.out.below hb7)
  have HX7 := Lib.hid (HX5.out.keep hb7)
  have HB7 := Lib.hid (HB5.out.trans (hb7.mono HB5.out.size))
  have h65 : w6.heap.size ≤ W5.heap.size := HST5.out.size
  have hg5 : W5.heap.size < W7.heap.size := by have := keeps_lt hm7; rw [HG.out.1] at this; exact this
  clear hb7 CM HST5 HX5 HB5
  by_cases hlong : 131072 < (outP r l bs).length
  case pos =>
   have HZ := Lib.hid (HERR.out 2 W7 (by rw [HE3.out, if_pos hlong]) (by decide) HB7.out)
   rw [decide_eq_true hlong] at hm7
   have c10 := hm7.cells.2.2.2.2.2.2.2.2.2.2.1
   rw [HG.out.1] at c10
   clear hlong hm7 hk7
   go_wp2_with fail
   exact HZ.out
  obtain ⟨hkz, hrows⟩ := hk7 (by omega)
  rw [decide_eq_false hlong] at hm7
  have hE4 := HE3.out
  rw [if_neg hlong] at hE4
  have hkb := treesP_bd HRZ.out HRT.out (right_rows HRT.out)
  rw [← hkz] at hkb HTK hE4
  have hol : (outP r l bs).length ≤ 131072 := by omega
  clear hkz hk7 HE3 hlong
  generalize outP r l bs = oz at *
  obtain ⟨oa, oc, hov, hoc⟩ := (hrows W7 (Above.refl _ _)).1.slice
  rw [List.length_map] at hov hoc
  subst hov
  have HMD : RowKit.Hid (PkMade w6.heap.size W7 W5.heap.size oz) := Lib.hid ⟨h65, E, _, fv, false, HG.out.1, hm7, fun W' ha => hrows W' (ha.mono h65)⟩
  have HM7 := Lib.hid hm7
  have HE4 := Lib.hid hE4
  have c10 := hm7.cells.2.2.2.2.2.2.2.2.2.2.1
  rw [HG.out.1] at c10
  clear hm7 hrows hE4
  have hel := endB_gt (well_rows F.wl) hxl
  have hx0 : (0 : Int) ≤ (xn : Int) := by omega
  have hxli : (xn : Int) < l.length := by omega
  have hxec : (xn : Int) < ec := by obtain ⟨a, c, e, h, _⟩ := F.N.open'; rw [endsL_length] at e h; simp only [Value.slice.injEq] at e; omega
  have hxuc : (xn : Int) < uc := by obtain ⟨a, c, e, h, _⟩ := F.U.open'; rw [List.length_map, List.length_range] at e h; simp only [Value.slice.injEq] at e; omega
  have hwk : IntKind.i64.wrap (kz - 1) = kz - 1 := by rw [IntKind.wrap_i64]; omega
  have hAl : ((mksX rs l P).take n).length = n := by rw [List.length_take]; omega
  have HREL : RowKit.Hid (¬ (kz ≠ 1 ∧ ((xn : Int) = 0 ∨ kindU l (upN l xn) ≠ 13)) → ∀ W8, St1 gm gd w6 (moreL l ((mksX rs l P).take n ++ [(xn, oz, kz - 1)])) (((mksX rs l P).take n).map (·.2.1)) P.length W8 → PkMade w6.heap.size W8 W5.heap.size oz → st1Rel rs l P gm gd w6 (.int .i64 (endB l xn : Int)) (.int .i64 (size + ((oz.length : Int) - ((endB l xn : Int) - (xn : Int))))) (.int .i64 ((n : Int) + 1)) (W8.setCell ⟨gd, n, none⟩ (.pointer (some ⟨W5.heap.size, 0, none⟩)))) := Lib.hid fun hc W8 h1 h2 => by
   have h3 := h1.setMade (by rw [List.length_map, hAl]; exact hlt) h2
   rw [List.length_map, hAl] at h3
   have h4 := HE4.out
   rw [if_neg hc] at h4
   refine ⟨n + 1, endB l xn, _, by push_cast; rfl, rfl, rfl, hlt, ?_, ?_, ?_, ?_, ?_⟩
   ·rw [h4, show size + (oz.length : Int) - ((endB l xn : Int) - (xn : Int)) = size + ((oz.length : Int) - ((endB l xn : Int) - (xn : Int))) by omega]
   ·push_cast; omega
   ·push_cast; omega
   ·intro p hp
    rw [HTK.out] at hp
    rcases List.mem_append.1 hp with hp | hp
    ·exact HBD.out p hp
    ·rw [List.mem_singleton] at hp; subst hp; exact ⟨by show -1 ≤ kz - 1; omega, by show kz - 1 ≤ 131072; omega⟩
   ·rw [HTK.out, List.map_append]; exact h3
  clear HBD HTK
  by_cases hx00 : xn = 0
  ·
   subst hx00
   by_cases hk1 : kz = 1
   case neg =>
    have HZ := Lib.hid (HERR.out 12 W7 (by rw [HE4.out, if_pos ⟨hk1, Or.inl rfl⟩]) (by decide) HB7.out)
    obtain ⟨x0, x1, x2⟩ := HX7.out.cells
    have q1 : (kz != 1) = true := by rw [bne_iff_ne]; exact hk1
    have q2 : (kz == 1) = false := by rw [beq_eq_false_iff_ne]; exact hk1
    clear hk1 HREL
    go_wp2_with fail
    exact HZ.out
   subst hk1
   have HST8 : RowKit.Hid (St1 gm gd w6 (moreL l ((mksX rs l P).take n ++ [(0, oz, 1 - 1)])) (((mksX rs l P).take n).map (·.2.1)) P.length W7) := Lib.hid (by rw [moreL_top]; exact HST7.out)
   have HRL := Lib.hid (HREL.out (fun h => h.1 rfl))
   obtain ⟨x0, x1, x2⟩ := HX7.out.cells
   clear HREL HST7
   go_upto_region 22 with (fail)
   generalize hW8 : W7 = W8 at *
   clear hW8
   have HX8 := HX7
   have HM8 := HM7
   have HMD8 := HMD
   obtain ⟨x0, x1, x2⟩ := HX8.out.cells
   have hec1 := (ints_cell (i := 0) (HST8.out.row F.N F.nb) (Below.refl _ _) hell).2
   rw [Nat.add_zero] at hec1
   have HL9 := Lib.hid (HRL.out W8.drew (HST8.out.below (Below.refl _ _).drew) (HMD8.out.above (Above.of_below (Below.refl _ _).drew)))
   rw [show ((endB l 0 : Int) - ((0 : Nat) : Int)) = (endB l 0 : Int) by simp] at HL9
   have hw1 : IntKind.i64.wrap (endB l 0 : Int) = (endB l 0 : Int) := by rw [IntKind.wrap_i64]; omega
   have hw2 : IntKind.i64.wrap ((oz.length : Int) - (endB l 0 : Int)) = (oz.length : Int) - (endB l 0 : Int) := by rw [IntKind.wrap_i64]; omega
   have hw3 : IntKind.i64.wrap (size + ((oz.length : Int) - (endB l 0 : Int))) = size + ((oz.length : Int) - (endB l 0 : Int)) := by rw [IntKind.wrap_i64]; omega
   obtain ⟨mu, mc1, mc2⟩ := HST8.out.madeCell (j := n) hlt
   have c8 := HM8.out.cells.2.2.2.2.2.2.2.2.1
   rw [HG.out.1] at c8
   clear HRL HMD8 HM8 hel hol hkb
   generalize endB l 0 = ee at *
   go_upto_region 23 with (fail)
   go_still_tail 12, (by kernel_rfl)
   change wpList _ _ _ _ _ W8.drew
   have mc1 : W8.drew.cell? ⟨gd, n, none⟩ = some mu := mc1
   have mc2 : W8.drew.frozen? ⟨gd, n, none⟩ = false := mc2
   clear x0 x1 x2 hec1 c8 c10 HST8 HX8
   generalize W8.drew = W9 at *
   go_wp2_with fail
   exact ⟨HL9.out, by simp only [intOf]; omega⟩
  ·have hu0 : 0 ≤ upN l xn := up_pos F.wl hxl xn (by omega)
   have hul := upN_less l xn
   have HUR := Lib.hid (HST7.out.row F.U F.ub)
   have hu1 := (ints_cell (i := xn) (z := upN l xn) HUR.out (Below.refl _ _) (by simp [hxl])).2
   obtain ⟨un, hun⟩ : ∃ un : Nat, upN l xn = (un : Int) := ⟨(upN l xn).toNat, by omega⟩
   rw [hun] at hu1
   have hunl : un < l.length := by omega
   obtain ⟨b2, o2, e', y1, y2, y3, hcc⟩ := F.L.at HB7.out (show 0 < l.length by omega)
   simp only [Option.some.injEq, Addr.mk.injEq, and_true] at e'
   obtain ⟨rfl, rfl⟩ := e'
   clear y1 y3
   have hku : kindU l (upN l xn) = ((l[un]).1 : Int) := by
    rw [hun]; unfold kindU kindI; rw [if_neg (by omega)]; simp [hunl]
   have kc := (hcc un hunl).1
   clear hcc
   generalize (l[un]).1 = uk at *
   have hun0 : (0 : Int) ≤ (un : Int) := by omega
   have hunli : (un : Int) < l.length := by omega
   have hunlc : (un : Int) < lc := by omega
   have hxp : ((xn : Int) == 0) = false := by rw [beq_eq_false_iff_ne]; omega
   have hxg : (0 : Int) < (xn : Int) := by omega
   obtain ⟨mc, mz⟩ := HST7.out.moreCell (u := un) (by rw [moreL_len]; exact hunl)
   rw [moreL_at] at mc
   have hmb := moreAt_bd l un _ HBD2.out
   rw [hAl] at hmb
   have hws : IntKind.i64.wrap (moreAt l ((mksX rs l P).take n) un + (kz - 1)) = moreAt l ((mksX rs l P).take n) un + (kz - 1) := by rw [IntKind.wrap_i64]; omega
   have HST8 : RowKit.Hid (St1 gm gd w6 (moreL l ((mksX rs l P).take n ++ [(xn, oz, kz - 1)])) (((mksX rs l P).take n).map (·.2.1)) P.length (W7.setCell ⟨gm, un, none⟩ (.int .i64 (moreAt l ((mksX rs l P).take n) un + (kz - 1))))) := Lib.hid (by rw [moreL_snoc l _ _ _ (by omega) hun hunl]; exact HST7.out.setMore un _)
   have lgm := HST7.out.lm
   have HX8 : RowKit.Hid (MtK (W7.setCell ⟨gm, un, none⟩ (.int .i64 (moreAt l ((mksX rs l P).take n) un + (kz - 1)))) gx (rn : Int) (xn : Int) (.slice ab bs.length cb)) := Lib.hid (by
    have h := HX7.out
    unfold MtK at *
    rw [heap_setCell_other _ _ _ _ (show gx ≠ gm by omega)]; exact h)
   have HM8 : RowKit.Hid (mkB E (.slice oa oz.length oc) fv false (W7.setCell ⟨gm, un, none⟩ (.int .i64 (moreAt l ((mksX rs l P).take n) un + (kz - 1))))) := Lib.hid (by
    have h := HM7.out
    unfold mkB at *
    rw [heap_setCell_other _ _ _ _ (show E.g ≠ gm by have := HG.out.1; omega)]; exact h)
   have HMD8 := Lib.hid (HMD.out.above ((Above.refl _ W7).setCell (b := gm) lgm un (.int .i64 (moreAt l ((mksX rs l P).take n) un + (kz - 1)))))
   obtain ⟨x0, x1, x2⟩ := HX7.out.cells
   by_cases hk1 : kz = 1
   ·have q1 : (kz != 1) = false := by rw [bne_eq_false_iff_eq]; exact hk1
    have q2 : (kz == 1) = true := by rw [beq_iff_eq]; exact hk1
    have HRL := Lib.hid (HREL.out (fun h => h.1 hk1))
    clear HREL HST7 kc hku hmb hk1
    go_upto_region 22 with (fail)
    clear x0 x1 x2 mc mz hu1 HX7 HM7 HMD hws
    generalize W7.setCell ⟨gm, un, none⟩ (.int .i64 (moreAt l ((mksX rs l P).take n) un + (kz - 1))) = W8 at *
    obtain ⟨x0, x1, x2⟩ := HX8.out.cells
    have hec1 := (ints_cell (i := xn) (HST8.out.row F.N F.nb) (Below.refl _ _) hell).2
    have HL9 := Lib.hid (HRL.out W8.drew (HST8.out.below (Below.refl _ _).drew) (HMD8.out.above (Above.of_below (Below.refl _ _).drew)))
    have hw1 : IntKind.i64.wrap ((endB l xn : Int) - (xn : Int)) = (endB l xn : Int) - (xn : Int) := by rw [IntKind.wrap_i64]; omega
    have hw2 : IntKind.i64.wrap ((oz.length : Int) - ((endB l xn : Int) - (xn : Int))) = (oz.length : Int) - ((endB l xn : Int) - (xn : Int)) := by rw [IntKind.wrap_i64]; omega
    have hw3 : IntKind.i64.wrap (size + ((oz.length : Int) - ((endB l xn : Int) - (xn : Int)))) = size + ((oz.length : Int) - ((endB l xn : Int) - (xn : Int))) := by rw [IntKind.wrap_i64]; omega
    obtain ⟨mu, mc1, mc2⟩ := HST8.out.madeCell (j := n) hlt
    have c8 := HM8.out.cells.2.2.2.2.2.2.2.2.1
    rw [HG.out.1] at c8
    clear HRL HMD8 HM8 hel hol hkb
    generalize endB l xn = ee at *
    go_upto_region 23 with (fail)
    go_still_tail 12, (by kernel_rfl)
    change wpList _ _ _ _ _ W8.drew
    have mc1 : W8.drew.cell? ⟨gd, n, none⟩ = some mu := mc1
    have mc2 : W8.drew.frozen? ⟨gd, n, none⟩ = false := mc2
    clear x0 x1 x2 hec1 c8 c10 HST8 HX8
    generalize W8.drew = W9 at *
    go_wp2_with fail
    exact ⟨HL9.out, by simp only [intOf]; omega⟩
   ·have q1 : (kz != 1) = true := by rw [bne_iff_ne]; exact hk1
    have q2 : (kz == 1) = false := by rw [beq_eq_false_iff_ne]; exact hk1
    by_cases h13 : uk = 13
    case neg =>
     have HZ := Lib.hid (HERR.out 12 W7 (by rw [HE4.out, if_pos ⟨hk1, Or.inr (by rw [hku]; omega)⟩]) (by decide) HB7.out)
     have q3 : ((uk : Int) != 13) = true := by rw [bne_iff_ne]; omega
     have q4 : ((uk : Int) == 13) = false := by rw [beq_eq_false_iff_ne]; omega
     clear hk1 h13 HREL hmb mc mz hku
     go_wp2_with fail
     exact HZ.out
    have HRL := Lib.hid (HREL.out (fun h => by rcases h.2 with h | h; omega; exact h (by rw [hku]; omega)))
    subst h13
    clear HREL HST7 hku hmb hk1
    go_upto_region 22 with (fail)
    clear x0 x1 x2 mc mz hu1 HX7 HM7 HMD hws kc
    generalize W7.setCell ⟨gm, un, none⟩ (.int .i64 (moreAt l ((mksX rs l P).take n) un + (kz - 1))) = W8 at *
    obtain ⟨x0, x1, x2⟩ := HX8.out.cells
    have hec1 := (ints_cell (i := xn) (HST8.out.row F.N F.nb) (Below.refl _ _) hell).2
    have HL9 := Lib.hid (HRL.out W8.drew (HST8.out.below (Below.refl _ _).drew) (HMD8.out.above (Above.of_below (Below.refl _ _).drew)))
    have hw1 : IntKind.i64.wrap ((endB l xn : Int) - (xn : Int)) = (endB l xn : Int) - (xn : Int) := by rw [IntKind.wrap_i64]; omega
    have hw2 : IntKind.i64.wrap ((oz.length : Int) - ((endB l xn : Int) - (xn : Int))) = (oz.length : Int) - ((endB l xn : Int) - (xn : Int)) := by rw [IntKind.wrap_i64]; omega
    have hw3 : IntKind.i64.wrap (size + ((oz.length : Int) - ((endB l xn : Int) - (xn : Int)))) = size + ((oz.length : Int) - ((endB l xn : Int) - (xn : Int))) := by rw [IntKind.wrap_i64]; omega
    obtain ⟨mu, mc1, mc2⟩ := HST8.out.madeCell (j := n) hlt
    have c8 := HM8.out.cells.2.2.2.2.2.2.2.2.1
    rw [HG.out.1] at c8
    clear HRL HMD8 HM8 hel hol hkb
    generalize endB l xn = ee at *
    go_upto_region 23 with (fail)
    go_still_tail 12, (by kernel_rfl)
    change wpList _ _ _ _ _ W8.drew
    have mc1 : W8.drew.cell? ⟨gd, n, none⟩ = some mu := mc1
    have mc2 : W8.drew.frozen? ⟨gd, n, none⟩ = false := mc2
    clear x0 x1 x2 hec1 c8 c10 HST8 HX8
    generalize W8.drew = W9 at *
    go_wp2_with fail
    exact ⟨HL9.out, by simp only [intOf]; omega⟩
end Go.Proofs.YtmklemelgdilkaaDoor
