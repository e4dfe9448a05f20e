/- The statement FillComes, walked: the call returns true. -/
import Derived.Test.YtmklemelgdilkaaDoorFix20Mg
import Derived.Test.YtmklemelgdilkaaDoorFillPMg
import Derived.Test.YtmklemelgdilkaaDoorTermSameMg
import Derived.Test.YtmklemelgdilkaaDoorStillMg
import Derived.StillTailTactics
namespace Go.Proofs.YtmklemelgdilkaaDoor
set_option linter.all false
attribute [local irreducible] Calls
attribute [local irreducible] wpStill
open Go.RowKit

theorem TinfoC_bool : (Tryd.prog.info? 4).map (fun i => (i.zero, i.size, i.bytes)) = some (some (.bool false), 1, 1) := by kernel_rfl
theorem TmakeC_bools (n : Nat) (hn : n ≤ 1000000000) (w : World) :
  (Instr.makeSlice 32 (.int .i64 (n : Int)) (.int .i64 (n : Int))).run Tryd.prog w = .ok (.slice (some ⟨w.heap.size, 0, none⟩) n n) (w.alloc (.cells (List.replicate n (Value.bool false)).toArray 4)) := by
 obtain ⟨i, hi, hz, hsz, hb⟩ := info_parts TinfoC_bool
 have hr := run_make (P := Tryd.prog) w 32 4 i (.bool false) Tryd.underlying32 hi hz .i64 .i64 (n : Int) (n : Int) (by omega) (Int.le_refl _) (by rw [hb]; omega) (by omega)
 rw [hsz] at hr
 have e : madeCells (Value.bool false).cells ((n : Int).toNat * 1) = (List.replicate n (Value.bool false)).toArray := by
  apply Array.ext'
  rw [Int.toNat_natCast, Nat.mul_one]
  show (madeCells #[.bool false] n).toList = _
  rw [toList_madeCells_one]
 rw [e] at hr
 rw [hr]
 simp only [Int.toNat_natCast]
theorem stepZ_no {rs : List RuleM} {l : List Prt} {P : List Pk} (h : (stepZ rs l P).2 ≠ 0) : (stepZ rs l P).1 = [] := by
 unfold stepZ at *
 split at h
 ·rename_i c; rw [if_pos c]
 ·rename_i c
  rw [if_neg c]
  split at h
  ·rename_i d; rw [if_pos d]
  ·rename_i d
   rw [if_neg d]
   unfold withZ at *
   split at h
   ·exact absurd rfl h
   ·rename_i f; rw [if_neg f]
theorem stepZ_len2 {rs : List RuleM} {l : List Prt} {P : List Pk} : (stepZ rs l P).1.length ≤ 262144 := by
 unfold stepZ
 split
 ·simp
 ·rename_i h1
  split
  ·simp
  ·rename_i h2
   have hw := (findErr_zero.1 (by simpa using h1)).1
   have h3 := stepOut_len hw (show stepErr rs l P ((0 : Nat) : Int) l.length = 0 by simpa using h2)
   unfold withZ
   split
   ·have := guardZ_le ((stepOut rs l P).map (·.1)) ((stepOut rs l P).map (·.2))
    rw [List.length_map] at this
    show (guardZ _ _).length ≤ _
    omega
   ·simp
def boolsV (L : List Bool) : List Value := L.map Value.bool
def inP (l : List Prt) (P : List PkX) (n : Nat) (WL : List Bool) : Prop := ∀ j (hj : j < P.length), j < n → ∀ k : Nat, (P[j]).1.2.1 ≤ (k : Int) → k < endB l (P[j]).1.2.1.toNat → WL.getD k false = true
def c1Rel (l : List Prt) (P : List PkX) (w3 : World) (gw : Nat) (nv : Value) (wr : World) : Prop := ∃ (n : Nat) (WL : List Bool), nv = .int .i64 (n : Int) ∧ n ≤ P.length ∧ WL.length = l.length ∧ inP l P n WL ∧ wr.heap[gw]? = some (.cells (boolsV WL).toArray 4 (0, 0)) ∧ Below w3.heap.size w3 wr
def c2Rel (l : List Prt) (P : List PkX) (n x : Nat) (w3 : World) (gw : Nat) (iv : Value) (wr : World) : Prop := ∃ (i : Nat) (WL : List Bool), iv = .int .i64 (i : Int) ∧ x ≤ i ∧ i ≤ endB l x ∧ WL.length = l.length ∧ inP l P n WL ∧ (∀ k, x ≤ k → k < i → WL.getD k false = true) ∧ wr.heap[gw]? = some (.cells (boolsV WL).toArray 4 (0, 0)) ∧ Below w3.heap.size w3 wr
def c3Rel (l : List Prt) (fr : List Int) (WL : List Bool) (w5 : World) (gt : Nat) (lv iv : Value) (wr : World) : Prop := ∃ (i : Nat) (z : Int) (TL : List Int), iv = .int .i64 (i : Int) ∧ lv = .int .i64 z ∧ i ≤ fr.length ∧ TL.length = l.length ∧ (∀ k, k < l.length → 0 ≤ TL.getD k 0 ∧ TL.getD k 0 ≤ (i : Int)) ∧ (∀ j (hj : j < fr.length), j < i → ∀ k : Nat, k < l.length → fr[j] = (k : Int) → WL.getD k false = false → 1 ≤ TL.getD k 0) ∧ wr.heap[gt]? = some (.cells (TL.map (Value.int .i64)).toArray 3 (0, 0)) ∧ Below w5.heap.size w5 wr
theorem c3Rel.drew {l : List Prt} {fr : List Int} {WL : List Bool} {w5 : World} {gt : Nat} {lv iv : Value} {wr : World} (h : c3Rel l fr WL w5 gt lv iv wr) : c3Rel l fr WL w5 gt lv iv wr.drew := by
 obtain ⟨i, z, TL, h1, h2, h3, h4, h5, h6, h7, h8⟩ := h
 exact ⟨i, z, TL, h1, h2, h3, h4, h5, h6, h7, h8.drew⟩
theorem set_true {WL : List Bool} {k i : Nat} (h : WL.getD k false = true) : (WL.set i true).getD k false = true := by
 rw [List.getD_eq_getElem?_getD] at *
 rw [List.getElem?_set]
 split
 ·split
  ·rfl
  ·rename_i e c
   subst e
   rw [List.getElem?_eq_none (by omega)] at h
   cases h
 ·exact h
set_option maxRecDepth 100000 in
set_option maxHeartbeats 32000000 in
theorem FillComes_walk (w : World) (vr : Value) (rs : List RuleX) (hr : RulesIn w vr rs) (hs : ∀ x ∈ rs, SmallR x.1) (hn : rs.length ≤ 1048576) (vl : Value) (l : List Prt) (hlr : PartRow w vl l) (hl : SmallL l) (vp : Value) (P : List PkX) (hp : PicksIn w vp P) (sp : P.length ≤ 1048576 ∧ ∀ x ∈ P, x.1.2.2.length ≤ 1048576) (hH : HeldM w) :
  Calls Tryd.prog 3 #[vr, vl, vp] w (AnswersM w) := by
 have HQ : RowKit.Hid (∀ w', Below w.heap.size w w' → AnswersM w (.returned (.bool true)) w') := Lib.hid fun w' h => AnswersM.mk h
 generalize AnswersM w = Q at *
 have CF := Lib.hid (fun w' (hb : Below w.heap.size w w') => law20_fixed w' (hH.T.below hb) (hH.M.below hb))
 have CG := Lib.hid (law20_great rs hs hn vr l hl.1 vl P sp.1 vp w hr hlr hp)
 have CA := Lib.hid (fun w' (hb : Below w.heap.size w w') => fill_Step rs hs l hl P sp vr vl vp w' (hH.T.below hb) (hH.M.below hb) (hr.below hb) (hlr.below hb) (hp.below hb))
 obtain ⟨ar, cr, rfl, hcr⟩ := hr.shape
 obtain ⟨al, cl, rfl, hcl⟩ := hlr.slice
 obtain ⟨ap, cp, rfl, hcp⟩ := hp.shape
 have HLR := Lib.hid hlr
 have HP := Lib.hid hp
 have hll := hl.1
 have hpn := sp.1
 have hzl := stepZ_len2 (rs := rs.map (·.1)) (l := l) (P := P.map (·.1))
 have HCM := Lib.hid (fun a h => comes (rules := rs.map (·.1)) (l := l) (P := P.map (·.1)) (a := a) h)
 have HNO := Lib.hid (stepZ_no (rs := rs.map (·.1)) (l := l) (P := P.map (·.1)))
 clear hr hlr hp hs hl hH sp
 go_enter Tryd.func3, Tryd.ntmps3
 go_wp2_with fail
 refine CG.out.mono ?_
 intro e w1 h1
 obtain ⟨y, rfl, hb1⟩ := h1.out
 have HB1 := Lib.hid hb1
 clear h1 hb1 CG
 cases y with
 | true =>
  go_wp2_with fail
  refine (CF.out w1 HB1.out).mono ?_
  rintro e wZ ⟨rfl, hbZ⟩
  have HX := Lib.hid (HQ.out wZ (bthen HB1.out hbZ))
  clear hbZ
  go_wp2_with fail
  exact HX.out
 | false =>
 have CA1 := Lib.hid (CA.out w1 HB1.out)
 go_wp2_with fail
 refine CA1.out.mono ?_
 intro e w2 h2
 unfold stepPost at h2
 obtain ⟨Z, hZ⟩ : ∃ Z, stepZ (rs.map (·.1)) l (P.map (·.1)) = Z := ⟨_, rfl⟩
 rw [hZ] at h2 hzl HCM HNO
 obtain ⟨hb2, ov, nv, rfl, ho2, hn2⟩ := h2
 obtain ⟨Zo, Ze⟩ := Z
 simp only [] at ho2 hn2 hzl HNO
 obtain ⟨oa, oc, rfl, hoc⟩ := Row.shape (Row.of_owns ho2)
 obtain ⟨na, nc, rfl, hnc⟩ := Row.shape (Row.of_owns hn2)
 have HPO : RowKit.Hid (PartRow w2 (.slice oa Zo.length oc) (Zo.map (·.1))) := Lib.hid (by
  have := Row.of_owns ho2
  unfold PartRow
  rw [List.length_map]; exact this)
 have HPN : RowKit.Hid (RowInts w2 (.slice na Zo.length nc) .i64 (Zo.map (·.2))) := Lib.hid (RowInts.of_owns hn2)
 have HB2 := Lib.hid (bthen HB1.out hb2)
 clear ho2 hn2 hb2 CA1 CA
 by_cases hze : Ze = 0
 case neg =>
  have hzo := HNO.out hze
  subst hzo
  have g1 : (Ze != 0) = true := by rw [bne_iff_ne]; exact hze
  have g2 : (Ze == 0) = false := by rw [beq_eq_false_iff_ne]; exact hze
  clear hze HNO HCM HPO HPN
  go_wp2_with fail
  refine (CF.out w2 HB2.out).mono ?_
  rintro e wZ ⟨rfl, hbZ⟩
  have HX := Lib.hid (HQ.out wZ (bthen HB2.out hbZ))
  clear hbZ
  go_wp2_with fail
  exact HX.out
 subst hze
 obtain ⟨hwa, hwl, hpk, hfr, hcm⟩ := HCM.out Zo rfl
 have HPK := Lib.hid hpk
 have HFRM := Lib.hid hfr
 have HCMS := Lib.hid hcm
 have HWL := Lib.hid hwl
 have CW1 := Lib.hid (term_Well (Zo.map (·.1)) (by rw [List.length_map]; omega) _ w2 HPO.out)
 rw [hwa] at CW1
 have CW2 := Lib.hid (fun W (hb : Below w.heap.size w W) => ref_Well11 l (by omega) _ W (HLR.out.below hb))
 rw [hwl] at CW2
 clear hpk hfr hcm hwa hwl HCM HNO hZ
 go_wp2_with fail
 refine CW1.out.mono ?_
 rintro e w3 ⟨rfl, hb3⟩
 have HB3 := Lib.hid (bthen HB2.out hb3)
 have HPO3 := Lib.hid (HPO.out.below hb3)
 have HPN3 := Lib.hid (HPN.out.below hb3)
 clear hb3 CW1 HPO HPN
 go_wp2_with fail
 refine (CW2.out w3 HB3.out).mono ?_
 rintro e w3' ⟨rfl, rfl⟩
 have hmk := TmakeC_bools l.length (by omega)
 have hmk2 := Tmake_ints l.length (by omega)
 have HG4 : RowKit.Hid ((w3.alloc (.cells (Array.replicate l.length (Value.bool false)) 4)).heap[w3.heap.size]? = some (.cells (boolsV (List.replicate l.length false)).toArray 4 (0, 0))) := Lib.hid (by
  rw [heap_alloc_new]
  unfold boolsV
  rw [List.map_replicate, List.toArray_replicate])
 have HB4 : RowKit.Hid (Below w3.heap.size w3 (w3.alloc (.cells (Array.replicate l.length (Value.bool false)) 4))) := Lib.hid ((Below.refl _ _).alloc (Nat.le_refl _) _)
 clear CW2
 go_wp2_with fail
 generalize w3.alloc (.cells (Array.replicate l.length (Value.bool false)) 4) = w4 at *
 obtain ⟨gw, hgw⟩ : ∃ gw, w3.heap.size = gw := ⟨_, rfl⟩
 have HGW := Lib.hid hgw
 rw [hgw] at HG4 HB4 ⊢
 clear hgw
 go_loopw [11] (fun nv wr => c1Rel l P w3 gw nv wr) (fun nv _ => P.length - (intOf nv).toNat)
 case atStart => exact ⟨0, List.replicate l.length false, rfl, Nat.zero_le _, by simp, fun j hj h => absurd h (Nat.not_lt_zero _), HG4.out, by rw [HGW.out]; exact HB4.out⟩
 case round =>
  obtain ⟨n, WL, rfl, hn', hwl, hin, hh, hb⟩ := hrel
  have HIN := Lib.hid hin
  have HH := Lib.hid hh
  have HB := Lib.hid hb
  clear hin hh hb
  have HBw := Lib.hid (bthen HB3.out HB.out)
  by_cases hlt : n < P.length
  case neg =>
   obtain rfl : n = P.length := by omega
   have HGW5 : gw < wr.heap.size := keeps_lt HH.out
   have HTOLD : RowKit.Hid (∀ k, k < l.length → WL.getD k false = false → ∃ x ∈ Zo, x.2 = (k : Int)) := Lib.hid fun k hk hw => by
    refine HCMS.out k hk fun p hp hcon => ?_
    obtain ⟨q, hq, rfl⟩ := List.mem_map.1 hp
    obtain ⟨j, hj, rfl⟩ := List.mem_iff_getElem.1 hq
    have := HIN.out j hj hj k hcon.1 hcon.2
    rw [hw] at this; cases this
   have HG5 : RowKit.Hid ((wr.alloc (.cells (Array.replicate l.length (Value.int .i64 0)) 3)).heap[wr.heap.size]? = some (.cells ((List.replicate l.length (0 : Int)).map (Value.int .i64)).toArray 3 (0, 0))) := Lib.hid (by
    rw [heap_alloc_new, List.map_replicate, List.toArray_replicate])
   have HB5 : RowKit.Hid (Below wr.heap.size wr (wr.alloc (.cells (Array.replicate l.length (Value.int .i64 0)) 3))) := Lib.hid ((Below.refl _ _).alloc (Nat.le_refl _) _)
   clear hlt hn' hmk
   go_wp2_with fail
   clear hmk2
   generalize wr.alloc (.cells (Array.replicate l.length (Value.int .i64 0)) 3) = w6 at *
   obtain ⟨gt, hgt⟩ : ∃ gt, wr.heap.size = gt := ⟨_, rfl⟩
   have HGT := Lib.hid hgt
   rw [hgt] at HG5 HB5 HGW5 ⊢
   clear hgt
   have HGW6 := Lib.hid HGW5
   clear HGW5
   go_loopw [14, 15] (fun lv iv wx => c3Rel l (Zo.map (·.2)) WL wr gt lv iv wx) (fun _ iv _ => Zo.length - (intOf iv).toNat)
   case atStart => exact ⟨0, -1, List.replicate l.length 0, rfl, rfl, Nat.zero_le _, by simp, fun k hk => by rw [List.getD_eq_getElem?_getD, List.getElem?_replicate, if_pos hk]; simp, fun j hj h => absurd h (Nat.not_lt_zero _), HG5.out, by rw [HGT.out]; exact HB5.out⟩
   case round =>
    obtain ⟨i, z, TL, rfl, rfl, hi, htl, hbd, hct, hh3, hb3⟩ := hrel
    rename World => wx
    have HI := Lib.hid (show i ≤ Zo.length by rw [List.length_map] at hi; exact hi)
    have HBD := Lib.hid hbd
    have HCT := Lib.hid hct
    have HH3 := Lib.hid hh3
    have HB3' := Lib.hid hb3
    clear hi hbd hct hh3 hb3
    have HBX := Lib.hid (bthen HBw.out HB3'.out)
    have HCW : RowKit.Hid (∀ k, k < l.length → wx.cell? ⟨gw, k, none⟩ = some (.bool (WL.getD k false))) := Lib.hid fun k hk => by
     rw [HB3'.out.cell (p := ⟨gw, k, none⟩) (by rw [HGT.out]; exact HGW6.out)]
     simp [World.cell?, HH.out, boolsV, hwl, hk, List.getD_eq_getElem?_getD]
    have HCT3 : RowKit.Hid (∀ k, k < l.length → wx.cell? ⟨gt, k, none⟩ = some (.int .i64 (TL.getD k 0))) := Lib.hid fun k hk => by
     simp [World.cell?, HH3.out, htl, hk, List.getD_eq_getElem?_getD]
    by_cases hlt3 : i < Zo.length
    case neg =>
     obtain rfl : i = Zo.length := by have := HI.out; omega
     have HT : RowKit.Hid (∀ k, k < l.length → WL.getD k false = false → 1 ≤ TL.getD k 0) := Lib.hid fun k hk hw => by
      obtain ⟨x, hx, e⟩ := HTOLD.out k hk hw
      obtain ⟨j, hj, rfl⟩ := List.mem_iff_getElem.1 hx
      exact HCT.out j (by rw [List.length_map]; exact hj) hj k hk (by rw [List.getElem_map]; exact e) hw
     clear hlt3
     go_wp2_with fail
     go_loopw [17] (fun kv wy => ∃ k : Nat, kv = .int .i64 (k : Int) ∧ k ≤ l.length ∧ wy = wx) (fun kv _ => l.length - (intOf kv).toNat)
     case atStart => exact ⟨0, rfl, Nat.zero_le _, rfl⟩
     case round =>
      obtain ⟨k, rfl, hk, rfl⟩ := hrel
      rename World => wx
      by_cases hkl : k < l.length
      ·have ck := HCW.out k hkl
       have ct := HCT3.out k hkl
       have ht := HT.out k hkl
       have hk0 : (0 : Int) ≤ (k : Int) := by omega
       have hkl2 : (k : Int) < l.length := by omega
       have hwi : IntKind.i64.wrap ((k : Int) + 1) = (k : Int) + 1 := by rw [IntKind.wrap_i64]; omega
       generalize WL.getD k false = wk at *
       generalize TL.getD k 0 = tk at *
       cases wk with
       | true =>
        clear ht
        go_wp2_with fail
        exact ⟨⟨k + 1, by push_cast; rfl, hkl, trivial⟩, by simp only [intOf]; omega⟩
       | false =>
        have htk : ¬ tk < 1 := by have := ht rfl; omega
        clear ht
        go_wp2_with fail
        exact ⟨⟨k + 1, by push_cast; rfl, hkl, trivial⟩, by simp only [intOf]; omega⟩
      ·have hkl2 : ¬ (k : Int) < l.length := by omega
       go_wp2_with fail
       refine (CF.out wx HBX.out).mono ?_
       rintro e wZ ⟨rfl, hbZ⟩
       have HX := Lib.hid (HQ.out wZ (bthen HBX.out hbZ))
       clear hbZ
       go_wp2_with fail
       exact HX.out
    have HFX := Lib.hid (HFRM.out Zo[i] (List.getElem_mem hlt3))
    obtain ⟨nb, no, rfl, hE1, hncc, hnum⟩ := ints_at HPN3.out (bthen HB.out HB3'.out) (by rw [List.length_map]; omega)
    have n1 := hnum i ((Zo[i]).2) (by rw [List.getElem?_map, List.getElem?_eq_getElem hlt3]; rfl)
    obtain ⟨zb, zo, rfl, hE2, hzcc, hE3, hpz⟩ := HPO3.out.at (bthen HB.out HB3'.out) (by rw [List.length_map]; omega)
    obtain ⟨z0, z1, z2⟩ := hpz i (by rw [List.length_map]; exact hlt3)
    simp only [List.getElem_map] at z0 z1 z2
    have HST : RowKit.Hid (∀ (TL' : List Int), (∀ k : Nat, (Zo[i]).2 = (k : Int) → WL.getD k false = false → 1 ≤ TL'.getD k 0) → (∀ k, 0 ≤ TL.getD k 0 → TL.getD k 0 ≤ TL'.getD k 0) → ∀ j (hj : j < (Zo.map (·.2)).length), j < i + 1 → ∀ k : Nat, k < l.length → (Zo.map (·.2))[j] = (k : Int) → WL.getD k false = false → 1 ≤ TL'.getD k 0) := Lib.hid fun TL' h1 h2 j hj hji k hkl he hw => by
     by_cases e : j = i
     ·subst e
      rw [List.getElem_map] at he
      exact h1 k he hw
     ·exact Int.le_trans (HCT.out j hj (by omega) k hkl he hw) (h2 k (HBD.out k hkl).1)
    clear hpz hnum hncc hzcc z1 hE1 hE2 hE3
    have hi0 : (0 : Int) ≤ (i : Int) := by omega
    have hil : (i : Int) < Zo.length := by omega
    have hwi : IntKind.i64.wrap ((i : Int) + 1) = (i : Int) + 1 := by rw [IntKind.wrap_i64]; omega
    generalize hze : Zo[i] = ze at *
    obtain ⟨⟨zk, zs, zw⟩, zf⟩ := ze
    simp only [] at n1 z0 z2 HFX HST
    have HBDI : RowKit.Hid (∀ k, k < l.length → 0 ≤ TL.getD k 0 ∧ TL.getD k 0 ≤ ((i + 1 : Nat) : Int)) := Lib.hid fun k hk => by have := HBD.out k hk; omega
    clear hze
    rcases HFX.out with rfl | ⟨k, hkl, rfl, rfl, rfl⟩
    ·have HX : RowKit.Hid (c3Rel l (Zo.map (·.2)) WL wr gt (.int .i64 z) (.int .i64 ((i : Int) + 1)) wx) := Lib.hid ⟨i + 1, z, TL, by push_cast; rfl, rfl, by rw [List.length_map]; exact hlt3, htl, HBDI.out, HST.out TL (fun k h => by omega) (fun k h => Int.le_refl _), HH3.out, HB3'.out⟩
     clear HFX
     go_wp2_with fail
     exact ⟨HX.out, by simp only [intOf]; omega⟩
    have hk0 : (0 : Int) ≤ (k : Int) := by omega
    have hk1 : (k : Int) < l.length := by omega
    have hk2 : ¬ (l.length : Int) ≤ (k : Int) := by omega
    have hk3 : ¬ (k : Int) < -1 := by omega
    have hk4 : ((k : Int) == -1) = false := by rw [beq_eq_false_iff_ne]; omega
    obtain ⟨lb, lo, rfl, hE4, hlcc, hE5, hpl⟩ := HLR.out.at HBX.out (by omega)
    obtain ⟨y0, y1, y2⟩ := hpl k hkl
    clear hpl y1 hlcc HFX hE4 hE5
    have ck := HCW.out k hkl
    have ct := HCT3.out k hkl
    have htk := HBD.out k hkl
    cases hw : WL.getD k false with
    | true =>
     rw [hw] at ck
     have HX : RowKit.Hid (c3Rel l (Zo.map (·.2)) WL wr gt (.int .i64 z) (.int .i64 ((i : Int) + 1)) wx) := Lib.hid ⟨i + 1, z, TL, by push_cast; rfl, rfl, by rw [List.length_map]; exact hlt3, htl, HBDI.out, HST.out TL (fun k' h h' => by
      obtain rfl : k = k' := by omega
      rw [hw] at h'; cases h') (fun k h => Int.le_refl _), HH3.out, HB3'.out⟩
     clear hw htk
     go_upto_region 27 with (fail)
     go_still_tail 23, (by kernel_rfl)
     have HX := Lib.hid (c3Rel.drew HX.out)
     go_wp2_with fail
     exact ⟨HX.out, by simp only [intOf]; omega⟩
    | false =>
     rw [hw] at ck
     have H1 : RowKit.Hid (∀ k' : Nat, ((k : Nat) : Int) = (k' : Int) → WL.getD k' false = false → 1 ≤ (TL.set k (TL.getD k 0 + 1)).getD k' 0) := Lib.hid fun k' h _ => by
      obtain rfl : k = k' := by omega
      rw [List.getD_eq_getElem?_getD, List.getElem?_set_self (by omega)]
      show 1 ≤ TL.getD k 0 + 1
      omega
     have H2 : RowKit.Hid (∀ k', 0 ≤ TL.getD k' 0 → TL.getD k' 0 ≤ (TL.set k (TL.getD k 0 + 1)).getD k' 0) := Lib.hid fun k' _ => by
      by_cases e : k = k'
      ·subst e
       rw [List.getD_eq_getElem?_getD (l := TL.set _ _), List.getElem?_set_self (by omega)]
       show TL.getD k 0 ≤ TL.getD k 0 + 1
       omega
      ·rw [List.getD_eq_getElem?_getD (l := TL.set _ _), List.getElem?_set_ne e, ← List.getD_eq_getElem?_getD]
       exact Int.le_refl _
     have H3 : RowKit.Hid (∀ k', k' < l.length → 0 ≤ (TL.set k (TL.getD k 0 + 1)).getD k' 0 ∧ (TL.set k (TL.getD k 0 + 1)).getD k' 0 ≤ ((i + 1 : Nat) : Int)) := Lib.hid fun k' hk' => by
      have h0 := HBD.out k' hk'
      by_cases e : k = k'
      ·subst e
       rw [List.getD_eq_getElem?_getD (l := TL.set _ _), List.getElem?_set_self (by omega)]
       show 0 ≤ TL.getD k 0 + 1 ∧ TL.getD k 0 + 1 ≤ _
       omega
      ·rw [List.getD_eq_getElem?_getD (l := TL.set _ _), List.getElem?_set_ne e, ← List.getD_eq_getElem?_getD]
       omega
     have HX : RowKit.Hid (∀ z', c3Rel l (Zo.map (·.2)) WL wr gt (.int .i64 z') (.int .i64 ((i : Int) + 1)) (wx.drew.setCell ⟨gt, k, none⟩ (.int .i64 (TL.getD k 0 + 1)))) := Lib.hid fun z' => ⟨i + 1, z', TL.set k (TL.getD k 0 + 1), by push_cast; rfl, rfl, by rw [List.length_map]; exact hlt3, by rw [List.length_set]; exact htl, H3.out, HST.out _ H1.out H2.out, by
      rw [heap_setCell_same _ _ _ _ _ _ (show wx.drew.heap[gt]? = _ from HH3.out)]
      rw [List.setIfInBounds_toArray, ← List.map_set], by rw [HGT.out]; have := HB3'.out.drew; rw [HGT.out] at this; exact this.setCell (p := ⟨gt, k, none⟩) (Nat.le_refl _) _⟩
     have HCK2 : RowKit.Hid (∀ u, (wx.drew.setCell ⟨gt, k, none⟩ u).cell? ⟨gw, k, none⟩ = some (.bool false)) := Lib.hid fun u => by
      rw [Tcell_setCell_ne (by show gw ≠ gt; have := HGW6.out; omega)]; exact ck
     have HCT4 : RowKit.Hid (∀ u, (wx.drew.setCell ⟨gt, k, none⟩ u).cell? ⟨gt, k, none⟩ = some u) := Lib.hid fun u => by
      unfold World.cell?
      rw [heap_setCell_same _ _ _ _ _ _ (show wx.drew.heap[gt]? = _ from HH3.out)]
      simp [htl, hkl]
     have zi : wx.drew.frozen? ⟨gt, k, none⟩ = false := by
      have : wx.drew.heap[gt]? = _ := HH3.out
      simp [World.frozen?, this]
     clear hw H1 H2 H3
     have hwt : IntKind.i64.wrap (TL.getD k 0 + 1) = TL.getD k 0 + 1 := by rw [IntKind.wrap_i64]; omega
     generalize TL.getD k 0 = tk at *
     have HX := Lib.hid (fun z' => HX.out z')
     go_upto_region 27 with (fail)
     go_still_tail 23, (by kernel_rfl)
     by_cases d : tk + 1 = 1
     ·obtain rfl : tk = 0 := by omega
      have ck2 := HCK2.out (.int .i64 1)
      have ct2 := HCT4.out (.int .i64 1)
      rw [World.setCell_drew] at ck2 ct2
      have HX2 : RowKit.Hid (∀ z', c3Rel l (Zo.map (·.2)) WL wr gt (.int .i64 z') (.int .i64 ((i : Int) + 1)) (wx.setCell ⟨gt, k, none⟩ (.int .i64 1)).drew) := Lib.hid fun z' => by rw [← World.setCell_drew]; exact HX.out z'
      by_cases d2 : z < (k : Int)
      ·go_wp2_with fail
       exact ⟨HX2.out _, by simp only [intOf]; omega⟩
      ·go_wp2_with fail
       exact ⟨HX2.out _, by simp only [intOf]; omega⟩
     ·have d1 : (tk + 1 == 1) = false := by rw [beq_eq_false_iff_ne]; exact d
      have ck2 := HCK2.out (.int .i64 (tk + 1))
      have ct2 := HCT4.out (.int .i64 (tk + 1))
      rw [World.setCell_drew] at ck2 ct2
      have HX2 : RowKit.Hid (∀ z', c3Rel l (Zo.map (·.2)) WL wr gt (.int .i64 z') (.int .i64 ((i : Int) + 1)) (wx.setCell ⟨gt, k, none⟩ (.int .i64 (tk + 1))).drew) := Lib.hid fun z' => by rw [← World.setCell_drew]; exact HX.out z'
      go_wp2_with fail
      exact ⟨HX2.out _, by simp only [intOf]; omega⟩
  have hpp := HPK.out (P[n]).1 (List.mem_map.2 ⟨P[n], List.getElem_mem hlt, rfl⟩)
  obtain ⟨pb, po, rfl, _, hpc⟩ := HP.out.at HBw.out (show 0 < P.length by omega)
  obtain ⟨p0, p1, p2⟩ := hpc n hlt
  clear p0 p2
  have HPC : RowKit.Hid (∀ W, Below w.heap.size w W → W.cell? ⟨pb, po + n * 3 + 1, none⟩ = some (.int .i64 (P[n]).1.2.1)) := Lib.hid fun W hb => by
   obtain ⟨b2, o2, e', _, hc⟩ := HP.out.at hb (show 0 < P.length by omega)
   simp only [Option.some.injEq, Addr.mk.injEq, and_true] at e'
   obtain ⟨rfl, rfl⟩ := e'
   exact (hc n hlt).2.1
  have HNX : RowKit.Hid (∀ WL' : List Bool, (∀ k : Nat, (P[n]).1.2.1 ≤ (k : Int) → k < endB l (P[n]).1.2.1.toNat → WL'.getD k false = true) → inP l P n WL' → inP l P (n + 1) WL') := Lib.hid fun WL' h1 h2 j hj hjn => by
   by_cases e : j = n
   ·subst e; exact h1
   ·exact h2 j hj (by omega)
  clear hpc
  generalize (P[n]).1.2.1 = px at *
  obtain ⟨xn, rfl⟩ : ∃ xn : Nat, px = (xn : Int) := ⟨px.toNat, by omega⟩
  have hxl : xn < l.length := by omega
  rw [Int.toNat_natCast] at HNX
  have CE := Lib.hid (fun W (hb : Below w.heap.size w W) => ref_End11 l (by omega) _ xn (by omega) W (HLR.out.below hb))
  rw [endR_end (well_rows HWL.out) hxl] at CE
  simp only [endI] at CE
  have hg := endB_gt (well_rows HWL.out) hxl
  have hn0 : (0 : Int) ≤ (n : Int) := by omega
  have hnl : (n : Int) < P.length := by omega
  have hnc : (n : Int) < cp := by omega
  have hx0 : ¬ (xn : Int) < 0 := by omega
  have hx1 : ¬ (l.length : Int) ≤ (xn : Int) := by omega
  have HAT : RowKit.Hid (c2Rel l P n xn w3 gw (.int .i64 (xn : Int)) wr) := Lib.hid ⟨xn, WL, rfl, Nat.le_refl _, by omega, hwl, HIN.out, fun k h1 h2 => by omega, HH.out, HB.out⟩
  clear hpp
  go_wp2_with fail
  go_loopw [12] (fun iv wx => c2Rel l P n xn w3 gw iv wx) (fun iv _ => endB l xn - (intOf iv).toNat)
  case atStart => exact HAT.out
  case round =>
   obtain ⟨i, WL2, rfl, hxi, hie, hwl2, hin2, hdone, hh2, hb2⟩ := hrel
   have HIN2 := Lib.hid hin2
   have HD2 := Lib.hid hdone
   have HH2 := Lib.hid hh2
   have HB2' := Lib.hid hb2
   clear hin2 hdone hh2 hb2
   have hbw2 := bthen HB3.out HB2'.out
   have p1 := HPC.out wr hbw2
   go_wp2_with fail
   refine (CE.out wr hbw2).mono ?_
   rintro e wE ⟨rfl, rfl⟩
   by_cases hlt2 : i < endB l xn
   ·have hil : i < l.length := by omega
    have ci : wr.cell? ⟨gw, i, none⟩ = some (.bool (WL2.getD i false)) := by
     simp [World.cell?, HH2.out, boolsV, hwl2, hil, List.getD_eq_getElem?_getD]
    have zi : wr.frozen? ⟨gw, i, none⟩ = false := by simp [World.frozen?, HH2.out]
    have HX : RowKit.Hid (c2Rel l P n xn w3 gw (.int .i64 ((i : Int) + 1)) (wr.setCell ⟨gw, i, none⟩ (.bool true))) := Lib.hid ⟨i + 1, WL2.set i true, by push_cast; rfl, by omega, hlt2, by rw [List.length_set]; exact hwl2, fun j hj hjn k h1 h2 => set_true (HIN2.out j hj hjn k h1 h2), fun k h1 h2 => by
     by_cases e : k = i
     ·subst e
      rw [List.getD_eq_getElem?_getD, List.getElem?_set_self (by omega)]; rfl
     ·exact set_true (HD2.out k h1 (by omega)), by
     rw [heap_setCell_same _ _ _ _ _ _ HH2.out]
     unfold boolsV
     rw [List.setIfInBounds_toArray, ← List.map_set], by rw [HGW.out]; have := HB2'.out; rw [HGW.out] at this; exact this.setCell (p := ⟨gw, i, none⟩) (Nat.le_refl _) _⟩
    have hi0 : (0 : Int) ≤ (i : Int) := by omega
    have hili : (i : Int) < l.length := by omega
    have hie2 : (i : Int) < (endB l xn : Int) := by omega
    have hwi : IntKind.i64.wrap ((i : Int) + 1) = (i : Int) + 1 := by rw [IntKind.wrap_i64]; omega
    clear hbw2
    go_wp2_with fail
    exact ⟨HX.out, by simp only [intOf]; omega⟩
   ·have hie2 : ¬ (i : Int) < (endB l xn : Int) := by omega
    have HX : RowKit.Hid (c1Rel l P w3 gw (.int .i64 ((n : Int) + 1)) wr) := Lib.hid ⟨n + 1, WL2, by push_cast; rfl, hlt, hwl2, HNX.out WL2 (fun k h1 h2 => HD2.out k (by omega) (by omega)) HIN2.out, HH2.out, HB2'.out⟩
    clear hbw2
    go_wp2_with fail
    exact ⟨HX.out, by simp only [intOf]; omega⟩
end Go.Proofs.YtmklemelgdilkaaDoor
