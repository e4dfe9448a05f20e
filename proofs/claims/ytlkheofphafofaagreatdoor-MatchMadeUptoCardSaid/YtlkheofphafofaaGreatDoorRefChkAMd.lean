/- Layer 16, the reference: kind and places, walked. -/
import Derived.Test.YtlkheofphafofaaGreatDoorRuleCMd
import Derived.Test.YtlkheofphafofaaGreatDoorRuleVMd
import Derived.Test.YtlkheofphafofaaGreatDoorTermSameMd
import Derived.Test.YtlkheofphafofaaGreatDoorStillMd
namespace Go.Proofs.YtlkheofphafofaaGreatDoor
set_option linter.all false
attribute [local irreducible] Calls
attribute [local irreducible] wpStill
open Go.RowKit

def kindV (l : List Prt) (u : Int) : Int := match kindI l u with
 | some k => (k : Int)
 | none => 255
theorem kind_isV (l : List Prt) (u : Int) (n : Nat) (hn : n ≠ 255) : (kindI l u == some n) = (kindV l u == (n : Int)) := by
 unfold kindV
 cases kindI l u with
 | none => simp; omega
 | some k => rw [Bool.eq_iff_iff]; simp; omega
set_option maxRecDepth 100000 in
set_option maxHeartbeats 8000000 in
theorem ref_kind16 (l : List Prt) (hl : l.length ≤ 1000000000) (v : Value) (u : Int) (h2 : u < l.length) (w : World) (hr : PartRow w v l) :
  Calls Tryz.prog 80 #[v, .int .i64 u] w fun e w' => e = .returned (.int .u8 (kindV l u)) ∧ w = w' := by
 have HQ : RowKit.Hid (∀ x, kindV l u = x → (fun (e : Ending) w' => e = .returned (.int .u8 (kindV l u)) ∧ w = w') (.returned (.int .u8 x)) w) := Lib.hid fun x h => ⟨by rw [h], rfl⟩
 generalize (fun (e : Ending) w' => e = .returned (.int .u8 (kindV l u)) ∧ w = w') = Q at *
 obtain ⟨va, vcap, rfl, hvc⟩ := hr.slice
 by_cases hu : u < 0
 ·have HX := Lib.hid (HQ.out 255 (by unfold kindV kindI; rw [if_pos hu]))
  go_enter Tryz.func80, Tryz.ntmps80
  go_wp2_with fail
  exact HX.out
 ·obtain ⟨k, rfl⟩ : ∃ k : Nat, u = (k : Int) := ⟨u.toNat, by omega⟩
  have hk : k < l.length := by omega
  obtain ⟨b, off, rfl, _, _, hbl, hcell⟩ := hr.at (Below.refl _ _) (show 0 < l.length by omega)
  have c0 := (hcell k hk).1
  have hk0 : (0 : Int) ≤ (k : Int) := by omega
  have hkl : (k : Int) < l.length := by omega
  have hneg : ¬ (k : Int) < 0 := by omega
  have HX := Lib.hid (HQ.out ((l[k]).1 : Int) (by unfold kindV kindI; rw [if_neg hneg, Int.toNat_natCast, List.getElem?_eq_getElem hk]; rfl))
  clear hcell hr HQ
  generalize (l[k]).1 = x at *
  go_enter Tryz.func80, Tryz.ntmps80
  go_wp2_with fail
  exact HX.out
def topN (l : List Prt) (i : Nat) : Int := if upN l i < 0 then -1 else upN l (upN l i).toNat
theorem kindV_neg (l : List Prt) {u : Int} (h : u < 0) : kindV l u = 255 := by unfold kindV kindI; rw [if_pos h]
theorem placeOK_ref (l : List Prt) (k i : Nat) : placeOK l k i = if k = 5 then kindV l (upN l i) == 50 else if k = 7 then (kindV l (upN l i) == 50 && kindV l (topN l i) == 13) else if k = 6 then (kindV l (upN l i) == 11 || kindV l (upN l i) == 12) else true := by
 unfold placeOK
 rw [kind_isV _ _ 50 (by omega), kind_isV _ _ 13 (by omega), kind_isV _ _ 11 (by omega), kind_isV _ _ 12 (by omega)]
 unfold topN
 by_cases h : upN l i < 0
 ·rw [if_pos h, kindV_neg l h]
  split
  ·rfl
  ·split
   ·have e : ((255 : Int) == ((50 : Nat) : Int)) = false := rfl
    have e2 : ((255 : Int) == (50 : Int)) = false := rfl
    rw [e, e2]; rfl
   ·rfl
 ·rw [if_neg h]; rfl
def rpRel (l : List Prt) (h : Hl) (w0 : World) (nv iv : Value) (wr : World) : Prop :=
 ∃ k n : Nat, iv = .int .i64 (k : Int) ∧ nv = .int .i64 (n : Int) ∧ k ≤ l.length ∧ n ≤ k ∧ placesF l h (l.length - k) k (n : Int) = placesZ l h ∧ Below w0.heap.size w0 wr
set_option maxRecDepth 100000 in
set_option maxHeartbeats 16000000 in
theorem ref_places (l : List Prt) (hl : l.length ≤ 1000000000) (us : List Nat) (hus : rowsB l = some us) (v : Value) (h : Hl) (w : World) (hr : PartRow w v l) :
  Calls Tryz.prog 48 #[v, .agg #[.string h.1, .int .u8 (h.2 : Int)]] w fun e w' => e = .returned (.int .i64 (placesZ l h)) ∧ Below w.heap.size w w' := by
 obtain ⟨hnm, hkd⟩ := h
 simp only []
 have HQ : RowKit.Hid (∀ z w', placesZ l (hnm, hkd) = z → Below w.heap.size w w' → (fun (e : Ending) w' => e = .returned (.int .i64 (placesZ l (hnm, hkd))) ∧ Below w.heap.size w w') (.returned (.int .i64 z)) w') := Lib.hid fun z w' hz hb => ⟨by rw [hz], hb⟩
 generalize (fun (e : Ending) w' => e = .returned (.int .i64 (placesZ l (hnm, hkd))) ∧ Below w.heap.size w w') = Q at *
 have hbx : Below w.heap.size w (w.alloc (.cells #[.string hnm, .int .u8 (hkd : Int)] 43)) := (Below.refl _ _).alloc (Nat.le_refl _) _
 have HBX := Lib.hid hbx
 have HX0 : RowKit.Hid ((w.alloc (.cells #[.string hnm, .int .u8 (hkd : Int)] 43)).heap[w.heap.size]? = some (.cells #[.string hnm, .int .u8 (hkd : Int)] 43 (0, 0))) := Lib.hid (heap_alloc_new _ _)
 have HR := Lib.hid hr
 have CUP := Lib.hid (fun (i : Nat) (hi : i < l.length) W (hb : Below w.heap.size w W) => ref_Up11 l hl us hus v i hi W (hr.below hb))
 have CKD := Lib.hid (fun (u : Int) (hu : u < l.length) W (hb : Below w.heap.size w W) => ref_kind16 l hl v u hu W (hr.below hb))
 obtain ⟨va, vcap, rfl, hvc⟩ := hr.slice
 clear hr hbx
 go_enter Tryz.func48, Tryz.ntmps48
 go_upto_region 2 with (fail)
 generalize w.alloc (.cells #[.string hnm, .int .u8 (hkd : Int)] 43) = w1 at *
 go_wp2_with fail
 go_loopw [5, 6] (fun nv iv wr => rpRel l (hnm, hkd) w1 nv iv wr) (fun _ iv _ => l.length - (intOf iv).toNat)
 case atStart => exact ⟨0, 0, rfl, rfl, Nat.zero_le _, Nat.le_refl _, rfl, Below.refl _ _⟩
 case round =>
  obtain ⟨k, n, rfl, rfl, hk, hnk, hpf, hb⟩ := hrel
  have HB := Lib.hid hb
  have HPF := Lib.hid hpf
  clear hb hpf
  have HBW : RowKit.Hid (Below w.heap.size w wr) := Lib.hid (HBX.out.trans (HB.out.mono HBX.out.size))
  by_cases hlt : k < l.length
  ·obtain ⟨b, off, rfl, _, _, hbl, hcell⟩ := HR.out.at (HBW.out) (show 0 < l.length by omega)
   obtain ⟨d0, d1, d2⟩ := hcell k hlt
   have hs := HPF.out
   rw [show l.length - k = (l.length - (k + 1)) + 1 by omega, placesF, List.getElem?_eq_getElem hlt] at hs
   have HS := Lib.hid hs
   have CP := Lib.hid (fun W => ref_Place l[k] hnm hkd W)
   have HPR := Lib.hid (show isPlace l[k] (hnm, hkd) = ((l[k]).1 == 26 && decide ((l[k]).2.2 = hnm)) from rfl)
   generalize hp : l[k] = p at *
   obtain ⟨a, c, s⟩ := p
   simp only [] at d0 d1 d2 CP HS HPR
   have hx1 := keeps HB.out HX0.out
   have g0 : wr.cell? ⟨w.heap.size, 0, none⟩ = some (.string hnm) := by simp [World.cell?, hx1]
   have g1 : wr.cell? ⟨w.heap.size, 1, none⟩ = some (.int .u8 (hkd : Int)) := by simp [World.cell?, hx1]
   have hk0 : (0 : Int) ≤ (k : Int) := by omega
   have hkl : (k : Int) < l.length := by omega
   have hkc : (k : Int) < vcap := by omega
   clear hcell hs hx1 hp
   go_upto_region 5 with (fail)
   go_still_tail 5, (by kernel_rfl)
   go_wp2_with fail
   refine (CP.out _).mono ?_
   rintro e w2 ⟨rfl, hb2⟩
   have HB2 := Lib.hid (bthen HB.out.drew hb2)
   clear hb2 CP d0 d1 d2 g0 g1
   rw [← HPR.out]
   cases hpl : isPlace (a, c, s) (hnm, hkd) with
   | false =>
    have HX : RowKit.Hid (placesF l (hnm, hkd) (l.length - (k + 1)) (k + 1) (n : Int) = placesZ l (hnm, hkd)) := Lib.hid (by have := HS.out; rw [hpl] at this; simpa using this)
    clear hpl
    go_wp2_with fail
    exact ⟨⟨k + 1, n, by push_cast; rfl, rfl, by omega, by omega, HX.out, HB2.out⟩, by simp only [intOf]; omega⟩
   | true =>
   have HSO : RowKit.Hid (placeOK l hkd k = true → placesF l (hnm, hkd) (l.length - (k + 1)) (k + 1) ((n : Int) + 1) = placesZ l (hnm, hkd)) := Lib.hid fun e => by have := HS.out; rw [hpl, e] at this; simpa using this
   have HSN : RowKit.Hid (placeOK l hkd k = false → placesZ l (hnm, hkd) = -1) := Lib.hid fun e => by have := HS.out; rw [hpl, e] at this; simpa using this.symm
   have HYES : RowKit.Hid (placeOK l hkd k = true → ∀ W, Below w1.heap.size w1 W → rpRel l (hnm, hkd) w1 (.int .i64 ((n : Int) + 1)) (.int .i64 ((k : Int) + 1)) W) := Lib.hid fun e W hb => ⟨k + 1, n + 1, by push_cast; rfl, by push_cast; rfl, by omega, by omega, by have := HSO.out e; push_cast; exact this, hb⟩
   have HNO : RowKit.Hid (placeOK l hkd k = false → ∀ W, Below w1.heap.size w1 W → Q (.returned (.int .i64 (-1))) W) := Lib.hid fun e W hb => HQ.out (-1) W (HSN.out e) (HBX.out.trans (hb.mono HBX.out.size))
   have HBW2 : RowKit.Hid (Below w.heap.size w w2) := Lib.hid ((HBX.out.trans (HB2.out.mono HBX.out.size)))
   have hx2 := keeps HB2.out HX0.out
   have g0 : w2.cell? ⟨w.heap.size, 0, none⟩ = some (.string hnm) := by simp [World.cell?, hx2]
   have g1 : w2.cell? ⟨w.heap.size, 1, none⟩ = some (.int .u8 (hkd : Int)) := by simp [World.cell?, hx2]
   have hge := upN_ge l k
   have hlt2 := upN_less l k
   have HPK := Lib.hid (placeOK_ref l hkd k)
   have CU := Lib.hid (CUP.out k hlt w2 HBW2.out)
   have HUU := Lib.hid (show upI l k k = upN l k from rfl)
   rw [HUU.out] at CU
   have CKU := Lib.hid (CKD.out (upN l k) (by omega) w2 HBW2.out)
   have CKT := Lib.hid (CKD.out (topN l k) (by unfold topN; split; omega; have := upN_less l (upN l k).toNat; omega) w2 HBW2.out)
   have HMS : RowKit.Hid (l.length - (k + 1) < l.length - k) := Lib.hid (by omega)
   have hwn : IntKind.i64.wrap ((n : Int) + 1) = (n : Int) + 1 := by rw [IntKind.wrap_i64]; omega
   clear hx2 hpl
   go_wp2_with fail
   refine CU.out.mono ?_
   rintro e w3 ⟨rfl, rfl⟩
   clear CU
   by_cases hu : upN l k < 0
   ·have ht : topN l k = -1 := by unfold topN; rw [if_pos hu]
    rw [ht] at CKT HPK
    have HU := Lib.hid (show 0 ≤ upN l k → False from fun h => by omega)
    have hx50 : kindV l (upN l k) = 255 := kindV_neg l hu
    rw [hx50] at CKU HPK
    clear ht hx50
    generalize upN l k = u at *
    generalize kindV l (-1) = y at *
    have hu0 : ¬ (0 : Int) ≤ u := fun h => HU.out h
    clear hge hlt2
    by_cases k5 : hkd = 5
    ·subst k5
     have HZ := Lib.hid (HNO.out (by rw [HPK.out]; rfl) w2 HB2.out)
     clear HYES HNO HSO HSN HPK
     go_wp2_with fail
     refine CKU.out.mono ?_
     rintro e w4 ⟨rfl, rfl⟩
     go_wp2_with fail
     exact HZ.out
    have f5 : ((hkd : Int) == 5) = false := by rw [beq_eq_false_iff_ne]; omega
    by_cases k7 : hkd = 7
    ·subst k7
     have HZ := Lib.hid (HNO.out (by rw [HPK.out]; rfl) w2 HB2.out)
     clear HYES HNO HSO HSN HPK
     go_wp2_with fail
     refine CKU.out.mono ?_
     rintro e w4 ⟨rfl, rfl⟩
     go_wp2_with fail
     exact HZ.out
    have f7 : ((hkd : Int) == 7) = false := by rw [beq_eq_false_iff_ne]; omega
    by_cases k6 : hkd = 6
    ·subst k6
     have HZ := Lib.hid (HNO.out (by rw [HPK.out]; rfl) w2 HB2.out)
     clear HYES HNO HSO HSN HPK
     go_wp2_with fail
     refine CKU.out.mono ?_
     rintro e w4 ⟨rfl, rfl⟩
     go_wp2_with fail
     refine CKU.out.mono ?_
     rintro e w4 ⟨rfl, rfl⟩
     go_wp2_with fail
     exact HZ.out
    have f6 : ((hkd : Int) == 6) = false := by rw [beq_eq_false_iff_ne]; omega
    have HZ := Lib.hid (HYES.out (by rw [HPK.out]; rw [if_neg k5, if_neg k7, if_neg k6]) w2 HB2.out)
    clear HYES HNO HSO HSN HPK
    go_wp2_with fail
    refine ⟨?_, by have := HMS.out; first | (simp only [intOf]; omega) | (simp [intOf]; omega) | exact this⟩
    first
     | exact HZ.out
     | (repeat apply Exists.intro
        refine ⟨?_, rfl⟩
        exact HZ.out)
   ·obtain ⟨j, hj⟩ : ∃ j : Nat, upN l k = (j : Int) := ⟨(upN l k).toNat, by omega⟩
    have ht : topN l k = upN l j := by unfold topN; rw [if_neg hu, hj, Int.toNat_natCast]
    rw [ht] at CKT HPK
    have CU2 := Lib.hid (CUP.out j (by omega) w2 HBW2.out)
    rw [show upI l j j = upN l j from rfl] at CU2
    rw [hj] at CKU HPK ⊢
    have hu0 : (0 : Int) ≤ (j : Int) := by omega
    clear ht hj hge hlt2 hu
    generalize upN l j = u2 at *
    generalize kindV l u2 = y at *
    generalize kindV l (j : Int) = x at *
    by_cases k5 : hkd = 5
    ·subst k5
     cases hx : x == 50 with
     | true =>
      have hx2 : (x != 50) = false := by rw [bne_eq_false_iff_eq]; exact eq_of_beq hx
      have HZ := Lib.hid (HYES.out (by rw [HPK.out]; rw [if_pos rfl]; exact hx) w2 HB2.out)
      clear HYES HNO HSO HSN HPK
      go_wp2_with fail
      refine CU2.out.mono ?_
      rintro e w4 ⟨rfl, rfl⟩
      go_wp2_with fail
      refine CKU.out.mono ?_
      rintro e w4 ⟨rfl, rfl⟩
      go_wp2_with fail
      refine ⟨?_, by have := HMS.out; first | (simp only [intOf]; omega) | (simp [intOf]; omega) | exact this⟩
      first
       | exact HZ.out
       | (repeat apply Exists.intro
          refine ⟨?_, rfl⟩
          exact HZ.out)
     | false =>
      have hx2 : (x != 50) = true := by rw [bne_iff_ne]; exact ne_of_beq_false hx
      have HZ := Lib.hid (HNO.out (by rw [HPK.out]; rw [if_pos rfl]; exact hx) w2 HB2.out)
      clear HYES HNO HSO HSN HPK
      go_wp2_with fail
      refine CU2.out.mono ?_
      rintro e w4 ⟨rfl, rfl⟩
      go_wp2_with fail
      refine CKU.out.mono ?_
      rintro e w4 ⟨rfl, rfl⟩
      go_wp2_with fail
      exact HZ.out
    have f5 : ((hkd : Int) == 5) = false := by rw [beq_eq_false_iff_ne]; omega
    by_cases k7 : hkd = 7
    ·subst k7
     cases hx : x == 50 with
     | true =>
      have hx2 : (x != 50) = false := by rw [bne_eq_false_iff_eq]; exact eq_of_beq hx
      cases hy : y == 13 with
      | true =>
       have hy2 : (y != 13) = false := by rw [bne_eq_false_iff_eq]; exact eq_of_beq hy
       have HZ := Lib.hid (HYES.out (by rw [HPK.out]; rw [if_neg (by omega), if_pos rfl, hx, hy]; rfl) w2 HB2.out)
       clear HYES HNO HSO HSN HPK
       go_wp2_with fail
       refine CU2.out.mono ?_
       rintro e w4 ⟨rfl, rfl⟩
       go_wp2_with fail
       refine CKU.out.mono ?_
       rintro e w4 ⟨rfl, rfl⟩
       go_wp2_with fail
       refine CKT.out.mono ?_
       rintro e w4 ⟨rfl, rfl⟩
       go_wp2_with fail
       refine ⟨?_, by have := HMS.out; first | (simp only [intOf]; omega) | (simp [intOf]; omega) | exact this⟩
       first
        | exact HZ.out
        | (repeat apply Exists.intro
           refine ⟨?_, rfl⟩
           exact HZ.out)
      | false =>
       have hy2 : (y != 13) = true := by rw [bne_iff_ne]; exact ne_of_beq_false hy
       have HZ := Lib.hid (HNO.out (by rw [HPK.out]; rw [if_neg (by omega), if_pos rfl, hx, hy]; rfl) w2 HB2.out)
       clear HYES HNO HSO HSN HPK
       go_wp2_with fail
       refine CU2.out.mono ?_
       rintro e w4 ⟨rfl, rfl⟩
       go_wp2_with fail
       refine CKU.out.mono ?_
       rintro e w4 ⟨rfl, rfl⟩
       go_wp2_with fail
       refine CKT.out.mono ?_
       rintro e w4 ⟨rfl, rfl⟩
       go_wp2_with fail
       exact HZ.out
     | false =>
      have hx2 : (x != 50) = true := by rw [bne_iff_ne]; exact ne_of_beq_false hx
      have HZ := Lib.hid (HNO.out (by rw [HPK.out]; rw [if_neg (by omega), if_pos rfl, hx]; rfl) w2 HB2.out)
      clear HYES HNO HSO HSN HPK
      go_wp2_with fail
      refine CU2.out.mono ?_
      rintro e w4 ⟨rfl, rfl⟩
      go_wp2_with fail
      refine CKU.out.mono ?_
      rintro e w4 ⟨rfl, rfl⟩
      go_wp2_with fail
      exact HZ.out
    have f7 : ((hkd : Int) == 7) = false := by rw [beq_eq_false_iff_ne]; omega
    by_cases k6 : hkd = 6
    ·subst k6
     cases hx : x == 11 with
     | true =>
      have hx2 : (x != 11) = false := by rw [bne_eq_false_iff_eq]; exact eq_of_beq hx
      have HZ := Lib.hid (HYES.out (by rw [HPK.out]; rw [if_neg (by omega), if_neg (by omega), if_pos rfl, hx]; rfl) w2 HB2.out)
      clear HYES HNO HSO HSN HPK
      go_wp2_with fail
      refine CU2.out.mono ?_
      rintro e w4 ⟨rfl, rfl⟩
      go_wp2_with fail
      refine CKU.out.mono ?_
      rintro e w4 ⟨rfl, rfl⟩
      go_wp2_with fail
      refine ⟨?_, by have := HMS.out; first | (simp only [intOf]; omega) | (simp [intOf]; omega) | exact this⟩
      first
       | exact HZ.out
       | (repeat apply Exists.intro
          refine ⟨?_, rfl⟩
          exact HZ.out)
     | false =>
      have hx2 : (x != 11) = true := by rw [bne_iff_ne]; exact ne_of_beq_false hx
      cases hy : x == 12 with
      | true =>
       have hy2 : (x != 12) = false := by rw [bne_eq_false_iff_eq]; exact eq_of_beq hy
       have HZ := Lib.hid (HYES.out (by rw [HPK.out]; rw [if_neg (by omega), if_neg (by omega), if_pos rfl, hx, hy]; rfl) w2 HB2.out)
       clear HYES HNO HSO HSN HPK
       go_wp2_with fail
       refine CU2.out.mono ?_
       rintro e w4 ⟨rfl, rfl⟩
       go_wp2_with fail
       refine CKU.out.mono ?_
       rintro e w4 ⟨rfl, rfl⟩
       go_wp2_with fail
       refine CKU.out.mono ?_
       rintro e w4 ⟨rfl, rfl⟩
       go_wp2_with fail
       refine ⟨?_, by have := HMS.out; first | (simp only [intOf]; omega) | (simp [intOf]; omega) | exact this⟩
       first
        | exact HZ.out
        | (repeat apply Exists.intro
           refine ⟨?_, rfl⟩
           exact HZ.out)
      | false =>
       have hy2 : (x != 12) = true := by rw [bne_iff_ne]; exact ne_of_beq_false hy
       have HZ := Lib.hid (HNO.out (by rw [HPK.out]; rw [if_neg (by omega), if_neg (by omega), if_pos rfl, hx, hy]; rfl) w2 HB2.out)
       clear HYES HNO HSO HSN HPK
       go_wp2_with fail
       refine CU2.out.mono ?_
       rintro e w4 ⟨rfl, rfl⟩
       go_wp2_with fail
       refine CKU.out.mono ?_
       rintro e w4 ⟨rfl, rfl⟩
       go_wp2_with fail
       refine CKU.out.mono ?_
       rintro e w4 ⟨rfl, rfl⟩
       go_wp2_with fail
       exact HZ.out
    have f6 : ((hkd : Int) == 6) = false := by rw [beq_eq_false_iff_ne]; omega
    have HZ := Lib.hid (HYES.out (by rw [HPK.out]; rw [if_neg k5, if_neg k7, if_neg k6]) w2 HB2.out)
    clear HYES HNO HSO HSN HPK
    go_wp2_with fail
    refine CU2.out.mono ?_
    rintro e w4 ⟨rfl, rfl⟩
    go_wp2_with fail
    refine ⟨?_, by have := HMS.out; first | (simp only [intOf]; omega) | (simp [intOf]; omega) | exact this⟩
    first
     | exact HZ.out
     | (repeat apply Exists.intro
        refine ⟨?_, rfl⟩
        exact HZ.out)
  ·have hkl : k = l.length := by omega
   subst hkl
   have hz := HPF.out
   rw [Nat.sub_self, placesF] at hz
   have HX := Lib.hid (HQ.out _ wr hz.symm HBW.out)
   go_wp2_with fail
   exact HX.out
end Go.Proofs.YtlkheofphafofaaGreatDoor
