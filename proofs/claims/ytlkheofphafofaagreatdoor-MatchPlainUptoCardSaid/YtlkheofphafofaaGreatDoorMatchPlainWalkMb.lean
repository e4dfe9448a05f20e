/- The statement MatchPlain, walked: the call returns true. -/
import Derived.Test.YtlkheofphafofaaGreatDoorFix17Mb
import Derived.Test.YtlkheofphafofaaGreatDoorShiftBMb
import Derived.Test.YtlkheofphafofaaGreatDoorRefOrdMb
import Derived.Test.YtlkheofphafofaaGreatDoorCheckCMb
import Derived.Test.YtlkheofphafofaaGreatDoorTermSameMb
namespace Go.Proofs.YtlkheofphafofaaGreatDoor
set_option linter.all false
attribute [local irreducible] Calls
open Go.RowKit

theorem plain_small {f : List Prt} (h : SmallL f) : SmallR (plainR f) := ⟨show (⟨#[114]⟩ : ByteArray).size ≤ 1048576 by decide, show 2 < 256 by decide, ⟨show ([] : List Hl).length ≤ 1048576 by decide, fun x hx => by cases hx⟩, h, h⟩
theorem plain_binds (f : List Prt) (o : Option MSt) : bndO (plainR f) o = [] := by
 cases o with
 | none => rfl
 | some τ => unfold bndO bindsOf plainR; simp
set_option maxRecDepth 100000 in
set_option maxHeartbeats 16000000 in
theorem MatchPlain_walk (w : World) (vl : Value) (l : List Prt) (hlr : PartRow w vl l) (hl : SmallL l) (i k : Int) (hH : HeldM w) :
  Calls Tryz.prog 7 #[vl, .int .i64 i, .int .i64 k] w (AnswersM w) := by
 have HQ : RowKit.Hid (∀ w', Below w.heap.size w w' → AnswersM w (.returned (.bool true)) w') := Lib.hid fun w' h => AnswersM.mk h
 generalize AnswersM w = Q at *
 have CF := Lib.hid (fun w' (hb : Below w.heap.size w w') => law17_fixed w' (hH.T.below hb) (hH.M.below hb))
 have CK := Lib.hid (ref_Check11 l (by have := hl.1; omega) (fun p hp => ⟨(hl.2 p hp).1, by have := (hl.2 p hp).2; omega⟩) vl w hlr)
 obtain ⟨al, cl, rfl, hcl⟩ := hlr.slice
 have HLR := Lib.hid hlr
 have HL := Lib.hid hl
 have HH := Lib.hid hH
 have hll := hl.1
 have HB0 := Lib.hid (Below.refl w.heap.size w)
 clear hlr hl hH
 go_enter Tryz.func7, Tryz.ntmps7
 by_cases hbig : (2000 : Int) < l.length
 ·go_wp2_with fail
  refine (CF.out w HB0.out).mono ?_
  rintro e wZ ⟨rfl, hbZ⟩
  have HX := Lib.hid (HQ.out wZ (bthen HB0.out hbZ))
  clear hbZ
  go_wp2_with fail
  exact HX.out
 by_cases hi0 : i < 0
 ·go_wp2_with fail
  refine (CF.out w HB0.out).mono ?_
  rintro e wZ ⟨rfl, hbZ⟩
  have HX := Lib.hid (HQ.out wZ (bthen HB0.out hbZ))
  clear hbZ
  go_wp2_with fail
  exact HX.out
 by_cases hil : (l.length : Int) ≤ i
 ·go_wp2_with fail
  refine (CF.out w HB0.out).mono ?_
  rintro e wZ ⟨rfl, hbZ⟩
  have HX := Lib.hid (HQ.out wZ (bthen HB0.out hbZ))
  clear hbZ
  go_wp2_with fail
  exact HX.out
 by_cases hk0 : k < 0
 ·go_wp2_with fail
  refine (CF.out w HB0.out).mono ?_
  rintro e wZ ⟨rfl, hbZ⟩
  have HX := Lib.hid (HQ.out wZ (bthen HB0.out hbZ))
  clear hbZ
  go_wp2_with fail
  exact HX.out
 by_cases hkl : (l.length : Int) ≤ k
 ·go_wp2_with fail
  refine (CF.out w HB0.out).mono ?_
  rintro e wZ ⟨rfl, hbZ⟩
  have HX := Lib.hid (HQ.out wZ (bthen HB0.out hbZ))
  clear hbZ
  go_wp2_with fail
  exact HX.out
 obtain ⟨i, rfl⟩ : ∃ j : Nat, i = (j : Int) := ⟨i.toNat, by omega⟩
 obtain ⟨k, rfl⟩ : ∃ j : Nat, k = (j : Int) := ⟨k.toNat, by omega⟩
 have hi : i < l.length := by omega
 have hk : k < l.length := by omega
 go_wp2_with fail
 refine CK.out.mono ?_
 rintro e w2 ⟨rfl, hb2⟩
 have HB2 := Lib.hid hb2
 clear hb2 CK
 cases hc : checkB l with
 | false =>
  clear hc
  simp only [Bool.false_eq_true, if_false]
  go_wp2_with fail
  refine (CF.out w2 HB2.out).mono ?_
  rintro e wZ ⟨rfl, hbZ⟩
  have HX := Lib.hid (HQ.out wZ (bthen HB2.out hbZ))
  clear hbZ
  go_wp2_with fail
  exact HX.out
 | true =>
 simp only [if_true]
 have hw := (checkB_inv hc).1
 have HPA := Lib.hid (plain_at hc hi hk)
 have hgi := endB_gt (well_rows hw) hi
 have hgk := endB_gt (well_rows hw) hk
 have CE := Lib.hid (ref_End11 l (by omega) _ i (by omega) w2 (HLR.out.below HB2.out))
 rw [endR_end (well_rows hw) hi] at CE
 have CE2 := Lib.hid (fun W (hb : Below w.heap.size w W) => ref_End11 l (by omega) _ k (by omega) W (HLR.out.below hb))
 rw [endR_end (well_rows hw) hk] at CE2
 simp only [endI] at CE CE2
 obtain ⟨sp, sc, hsl, hpr⟩ := slice_piece w _ l HLR.out i (endB l i) (by omega) hgi.2
 obtain ⟨sp2, sc2, hsl2, hpr2⟩ := slice_piece w _ l HLR.out k (endB l k) (by omega) hgk.2
 have hsp := piece_small HL.out i (endB l i)
 have hsp2 := piece_small HL.out k (endB l k)
 have hpl := (piece_well (well_rows hw) hi).2
 have CA := Lib.hid (fun W (hb : Below w.heap.size w W) vf (hv : PartRow W vf (piece l i (endB l i))) => at_flat (plainR (piece l i (endB l i))) (plain_small hsp) (.slice none 0 0) vf vf l HL.out (.slice al l.length cl) (k : Int) W (HH.out.T.below hb) (HH.out.M.below hb) ⟨⟨rfl, none, 0, rfl, Nat.le_refl _, fun _ => rfl, fun h => absurd (show 0 < 0 from h) (by decide)⟩, hv, hv⟩ (HLR.out.below hb))
 have CS := Lib.hid (fun W (hb : Below w.heap.size w W) => ref_Same11 _ _ (piece l i (endB l i)) (piece l k (endB l k)) (by have := hsp.1; omega) (by have := hsp2.1; omega) W (hpr.below hb) (hpr2.below hb))
 have HPR := Lib.hid hpr
 have ea : ∀ a b c, ruleAgg (plainR (piece l i (endB l i))) a b c = .agg #[.string ⟨#[114]⟩, .int .u8 2, a, b, c] := fun _ _ _ => rfl
 unfold FlatP at CA
 simp only [plain_binds, ea, List.length_nil] at CA
 clear ea
 generalize atZ (plainR (piece l i (endB l i))) l (k : Int) = o at *
 have hiz : (i : Int) ≤ (endB l i : Int) := by omega
 have hizl : (endB l i : Int) ≤ l.length := by omega
 have hkz : (k : Int) ≤ (endB l k : Int) := by omega
 have hkzl : (endB l k : Int) ≤ l.length := by omega
 have hi00 : (0 : Int) ≤ (i : Int) := by omega
 have hk00 : (0 : Int) ≤ (k : Int) := by omega
 clear hpr hpr2 hsp hsp2 hc hw
 generalize piece l i (endB l i) = FI at *
 generalize piece l k (endB l k) = FK at *
 generalize endB l i = zi at *
 generalize endB l k = zk at *
 go_wp2_with fail
 refine CE.out.mono ?_
 rintro e w3 ⟨rfl, rfl⟩
 clear CE
 go_upto_region 5 with (fail)
 have HB3 := Lib.hid (HB2.out.alloc HB2.out.size (.cells #[.string ⟨#[114]⟩, .int .u8 2, .slice none 0 0, .slice sp (zi - i) sc, .slice sp (zi - i) sc] 25))
 have HRK : RowKit.Hid (RK (w2.alloc (.cells #[.string ⟨#[114]⟩, .int .u8 2, .slice none 0 0, .slice sp (zi - i) sc, .slice sp (zi - i) sc] 25)) w2.heap.size ⟨#[114]⟩ 2 (.slice none 0 0) (.slice sp (zi - i) sc) (.slice sp (zi - i) sc)) := Lib.hid (heap_alloc_new _ _)
 have CA2 := Lib.hid (CA.out _ HB3.out _ (HPR.out.below HB3.out))
 generalize w2.alloc (.cells #[.string ⟨#[114]⟩, .int .u8 2, .slice none 0 0, .slice sp (zi - i) sc, .slice sp (zi - i) sc] 25) = w4 at *
 generalize w2.heap.size = gr at *
 obtain ⟨e0, e1, e2, e3, e4⟩ := HRK.out.cells
 clear CA
 go_wp2_with fail
 refine CA2.out.mono ?_
 rintro e w5 ⟨qa, qc, rfl, hqc, _, hb5⟩
 have HB5 := Lib.hid (bthen HB3.out hb5)
 clear hb5 CA2 e0 e1 e2 e3 e4
 go_wp2_with fail
 refine (CF.out w5 HB5.out).mono ?_
 rintro e w6 ⟨rfl, hb6⟩
 have HB6 := Lib.hid (bthen HB5.out hb6)
 have CE3 := Lib.hid (CE2.out w6 HB6.out)
 clear hb6 CE2
 go_wp2_with fail
 refine CE3.out.mono ?_
 rintro e w7 ⟨rfl, rfl⟩
 have CS2 := Lib.hid (CS.out w6 HB6.out)
 clear CE3 CS
 go_wp2_with fail
 refine CS2.out.mono ?_
 rintro e w8 ⟨x, rfl, ht, hb8⟩
 have hx : x = o.isSome := by rw [Bool.eq_iff_iff, HPA.out]; exact ht
 subst hx
 have HX := Lib.hid (HQ.out w8 (bthen HB6.out hb8))
 clear ht hb8 CS2
 go_wp2_with fail
 exact HX.out
end Go.Proofs.YtlkheofphafofaaGreatDoor
