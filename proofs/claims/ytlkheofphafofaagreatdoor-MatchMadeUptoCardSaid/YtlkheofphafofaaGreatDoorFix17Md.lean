/- Layer 17: the document's example, walked. -/
import Derived.Test.YtlkheofphafofaaGreatDoorAtMd
import Derived.Test.YtlkheofphafofaaGreatDoorRefMAMd
import Derived.Test.YtlkheofphafofaaGreatDoorMapUMd
import Derived.Test.YtlkheofphafofaaGreatDoorAppEqMd
namespace Go.Proofs.YtlkheofphafofaaGreatDoor
set_option linter.all false
attribute [local irreducible] Calls
open Go.RowKit

theorem Minfo_part : (Tryz.prog.info? 48).map (fun i => (i.zero, i.size, i.bytes)) = some (some (.agg #[.int .u8 0, .int .i64 0, .string ⟨#[]⟩]), 3, 32) := by kernel_rfl
theorem lit_part (w : World) (l : List Prt) (hl : l.length ≤ 1000000) : PartRow (w.alloc (.cells (partsV l).toArray 48)) (.slice (some ⟨w.heap.size, 0, none⟩) l.length l.length) l := by
 have : (w.alloc (.cells (partsV l).toArray 48)).ownsRow 0 48 3 (.slice (some ⟨w.heap.size, 0, none⟩) l.length l.length) l.length (partsV l) := by
  refine ⟨by rw [partsV_length], Or.inr ⟨w.heap.size, l.length, (partsV l).toArray, rfl, Nat.zero_le _, heap_alloc_new _ _, Nat.le_refl _, by unfold maxLen; omega, by simp [partsV_length], by simp [List.take_of_length_le, partsV_length]⟩⟩
 exact Row.of_owns this
theorem lit_holes (w : World) (l : List Hl) (hl : l.length ≤ 1000000) : HoleRow (w.alloc (.cells (holesV l).toArray 43)) (.slice (some ⟨w.heap.size, 0, none⟩) l.length l.length) l := by
 have : (w.alloc (.cells (holesV l).toArray 43)).ownsRow 0 43 2 (.slice (some ⟨w.heap.size, 0, none⟩) l.length l.length) l.length (holesV l) := by
  refine ⟨by rw [holesV_length], Or.inr ⟨w.heap.size, l.length, (holesV l).toArray, rfl, Nat.zero_le _, heap_alloc_new _ _, Nat.le_refl _, by unfold maxLen; omega, by simp [holesV_length], by simp [List.take_of_length_le, holesV_length]⟩⟩
 exact Row.of_owns this
theorem lit_binds (w : World) (l : List Bnd) (hl : l.length ≤ 1000000) : BindRow (w.alloc (.cells (bindsV l).toArray 41)) (.slice (some ⟨w.heap.size, 0, none⟩) l.length l.length) l := by
 have : (w.alloc (.cells (bindsV l).toArray 41)).ownsRow 0 41 3 (.slice (some ⟨w.heap.size, 0, none⟩) l.length l.length) l.length (bindsV l) := by
  refine ⟨by rw [bindsV_length], Or.inr ⟨w.heap.size, l.length, (bindsV l).toArray, rfl, Nat.zero_le _, heap_alloc_new _ _, Nat.le_refl _, by unfold maxLen; omega, by simp [bindsV_length], by simp [List.take_of_length_le, bindsV_length]⟩⟩
 exact Row.of_owns this
theorem parts_oneCell (l : List Prt) : ∀ u ∈ partsV l, u.oneCell' = true := by
 intro u hu
 unfold partsV at hu
 rw [List.mem_flatMap] at hu
 obtain ⟨p, _, hp⟩ := hu
 simp [partV] at hp
 rcases hp with rfl | rfl | rfl <;> rfl
set_option maxRecDepth 100000 in
set_option maxHeartbeats 4000000 in
theorem law17_name (s : ByteArray) (w : World) : Calls Tryz.prog 36 #[.string s] w fun e w' => e = .returned (.agg #[.int .u8 26, .int .i64 0, .string s]) ∧ Below w.heap.size w w' := by
 have HX : RowKit.Hid (∀ w', Below w.heap.size w w' → (fun (e : Ending) w' => e = .returned (.agg #[.int .u8 26, .int .i64 0, .string s]) ∧ Below w.heap.size w w') (.returned (.agg #[.int .u8 26, .int .i64 0, .string s])) w') := Lib.hid fun w' h => ⟨rfl, h⟩
 generalize (fun (e : Ending) w' => e = .returned (.agg #[.int .u8 26, .int .i64 0, .string s]) ∧ Below w.heap.size w w') = Q at *
 go_enter Tryz.func36, Tryz.ntmps36
 go_wp2_with fail
 refine bodyPost_ret (v := .agg #[.int .u8 26, .int .i64 0, .string s]) ?_ rfl (HX.out _ ((Below.refl _ _).alloc (Nat.le_refl _) _))
 simp [results, Tryz.f36, go_sem]
theorem fixR_small : SmallR fixR := ⟨by decide, by decide, ⟨by decide, by decide⟩, ⟨by decide, by decide⟩, ⟨by decide, by decide⟩⟩
theorem fixL_small : SmallL fixL := ⟨by decide, by decide⟩
def callL : List Prt := [(34, 2, ⟨#[]⟩), (26, 0, nmS 102)]
theorem copy_eq (w : World) (B : Nat) (hB : B ≤ w.heap.size) (l : List Prt) (hl : l.length ≤ 1000000) (src : Value) (hr : PartRow w src l) :
  ∃ v' w', (Builtin.append_ #[23, 23] 23 #[.slice (some ⟨w.heap.size, 0, none⟩) 0 0, src]).run Tryz.prog (w.alloc (.cells #[] 48)) = .ok v' w' ∧ w'.ownsRow B 48 3 v' l.length (partsV l) ∧ Below w.heap.size w w' := by
 obtain ⟨v', w', h1, h2, h3, _⟩ := append_eq (P := Tryz.prog) (w.alloc (.cells #[] 48)) 23 23 48 Tryz.underlying23 w.heap.size Minfo_part rfl (by decide) _ 0 [] (owns_empty w w.heap.size 48 3 (Nat.le_refl _)) src l.length (partsV l) (Row.below hr ((Below.refl _ _).alloc (Nat.le_refl _) _)) (parts_oneCell l) (by omega) (by omega) (by simp)
 refine ⟨v', w', h1, ?_, ?_⟩
 ·have := World.ownsRow.base_mono h2 hB
  simpa using this
 ·exact ((Below.refl _ _).alloc (Nat.le_refl _) _).grown h3 (by simp) (fun q e => by simp [Value.ownBlock] at e; omega)
set_option maxRecDepth 100000 in
set_option maxHeartbeats 8000000 in
theorem law17_fixed (w : World) (hT : Tabs w) (hM : MaxC w) : Calls Tryz.prog 10 #[] w fun e w' => e = .returned (.bool true) ∧ Below w.heap.size w w' := by
 have HQ : RowKit.Hid (∀ w', Below w.heap.size w w' → (fun (e : Ending) w' => e = .returned (.bool true) ∧ Below w.heap.size w w') (.returned (.bool true)) w') := Lib.hid fun w' h => ⟨rfl, h⟩
 generalize (fun (e : Ending) w' => e = .returned (.bool true) ∧ Below w.heap.size w w') = Q at *
 have HT := Lib.hid hT
 have HMX := Lib.hid hM
 clear hT hM
 go_enter Tryz.func10, Tryz.ntmps10
 go_wp2_with fail
 refine (law17_name _ _).mono ?_
 rintro e w1 ⟨rfl, hb1⟩
 have HB1 := Lib.hid hb1
 clear hb1
 go_upto_region 2 with (fail)
 have HC : RowKit.Hid (PartRow (w1.alloc (.cells #[.int .u8 34, .int .i64 2, .string ⟨#[]⟩, .int .u8 26, .int .i64 0, .string ⟨#[102]⟩] 48)) (.slice (some ⟨w1.heap.size, 0, none⟩) 2 2) callL) := Lib.hid (lit_part w1 callL (by decide))
 have HB2 : RowKit.Hid (Below w.heap.size w (w1.alloc (.cells #[.int .u8 34, .int .i64 2, .string ⟨#[]⟩, .int .u8 26, .int .i64 0, .string ⟨#[102]⟩] 48))) := Lib.hid (HB1.out.alloc HB1.out.size _)
 generalize w1.alloc (.cells #[.int .u8 34, .int .i64 2, .string ⟨#[]⟩, .int .u8 26, .int .i64 0, .string ⟨#[102]⟩] 48) = w2 at *
 generalize w1.heap.size = g1 at *
 clear HB1
 obtain ⟨vA, wA, hr, ho, hb⟩ := copy_eq w2 w2.heap.size (Nat.le_refl _) callL (by decide) _ HC.out
 obtain ⟨aA, cA, hv, _⟩ : ∃ a c, vA = .slice a 2 c ∧ 2 ≤ c := Row.shape (Row.of_owns ho)
 subst hv
 have HOA := Lib.hid ho
 have HBA := Lib.hid hb
 clear ho hb
 go_wp2_with (at_builtin; refine wpList_append_run rfl _ _ _ _ hr rfl rfl rfl rfl ?_)
 clear hr
 refine (law17_name _ _).mono ?_
 rintro e wA_0 ⟨rfl, hb⟩
 have HOA_0 := Lib.hid (owns_below HOA.out hb)
 have HBA_0 := Lib.hid (bthen HBA.out hb)
 clear hb HOA HBA
 go_wp2_with fail
 refine (law17_name _ _).mono ?_
 rintro e wA_1 ⟨rfl, hb⟩
 have HOA_1 := Lib.hid (owns_below HOA_0.out hb)
 have HBA_1 := Lib.hid (bthen HBA_0.out hb)
 clear hb HOA_0 HBA_0
 go_wp2_with fail
 refine (law17_name _ _).mono ?_
 rintro e wA_2 ⟨rfl, hb⟩
 have HOA_2 := Lib.hid (owns_below HOA_1.out hb)
 have HBA_2 := Lib.hid (bthen HBA_1.out hb)
 clear hb HOA_1 HBA_1
 obtain ⟨uA, xA, hr, hown, hgr, _⟩ := append_lit_eq (P := Tryz.prog) wA_2 #[.int .u8 11, .int .i64 3, .string ⟨#[]⟩, .int .u8 26, .int .i64 0, .string ⟨#[120, 115]⟩, .int .u8 26, .int .i64 0, .string ⟨#[97]⟩, .int .u8 26, .int .i64 0, .string ⟨#[121, 115]⟩] 48 23 23 48 Tryz.underlying23 w2.heap.size Minfo_part rfl (by decide) _ 2 (partsV callL) HOA_2.out 4 4 rfl (Nat.le_refl _) (fun u hu => parts_oneCell [(11, 3, ⟨#[]⟩), (26, 0, ⟨#[120, 115]⟩), (26, 0, ⟨#[97]⟩), (26, 0, ⟨#[121, 115]⟩)] u hu) (by omega) (by omega) HBA_2.out.size
 have HRA : RowKit.Hid (PartRow xA uA fixF) := Lib.hid (Row.of_owns hown)
 have hbx : Below w2.heap.size w2 xA := (HBA_2.out.alloc HBA_2.out.size _).grown hgr (by have := HBA_2.out.size; simp; omega) (fun q e => (HOA_2.out.lt q e).1)
 have HBXA := Lib.hid (bthen HB2.out hbx)
 have HCA := Lib.hid (HC.out.below hbx)
 have HBYA := Lib.hid hbx
 obtain ⟨uaA, ucA, hv, _⟩ : ∃ a c, uA = .slice a 6 c ∧ 6 ≤ c := Row.shape HRA.out
 subst hv
 go_upto_region 3 with (at_builtin; refine wpList_append_run rfl _ _ _ _ hr rfl rfl rfl rfl ?_)
 clear hr hown hgr hbx HOA_2 HBA_2
 obtain ⟨vB, wB, hr, ho, hb⟩ := copy_eq xA xA.heap.size (Nat.le_refl _) callL (by decide) _ HCA.out
 obtain ⟨aB, cB, hv, _⟩ : ∃ a c, vB = .slice a 2 c ∧ 2 ≤ c := Row.shape (Row.of_owns ho)
 subst hv
 have HOB := Lib.hid ho
 have HBB := Lib.hid hb
 clear ho hb
 go_wp2_with (at_builtin; refine wpList_append_run rfl _ _ _ _ hr rfl rfl rfl rfl ?_)
 clear hr
 refine (law17_name _ _).mono ?_
 rintro e wB_0 ⟨rfl, hb⟩
 have HOB_0 := Lib.hid (owns_below HOB.out hb)
 have HBB_0 := Lib.hid (bthen HBB.out hb)
 clear hb HOB HBB
 go_wp2_with fail
 refine (law17_name _ _).mono ?_
 rintro e wB_1 ⟨rfl, hb⟩
 have HOB_1 := Lib.hid (owns_below HOB_0.out hb)
 have HBB_1 := Lib.hid (bthen HBB_0.out hb)
 clear hb HOB_0 HBB_0
 go_wp2_with fail
 refine (law17_name _ _).mono ?_
 rintro e wB_2 ⟨rfl, hb⟩
 have HOB_2 := Lib.hid (owns_below HOB_1.out hb)
 have HBB_2 := Lib.hid (bthen HBB_1.out hb)
 clear hb HOB_1 HBB_1
 go_wp2_with fail
 refine (law17_name _ _).mono ?_
 rintro e wB_3 ⟨rfl, hb⟩
 have HOB_3 := Lib.hid (owns_below HOB_2.out hb)
 have HBB_3 := Lib.hid (bthen HBB_2.out hb)
 clear hb HOB_2 HBB_2
 obtain ⟨uB, xB, hr, hown, hgr, _⟩ := append_lit_eq (P := Tryz.prog) wB_3 #[.int .u8 11, .int .i64 4, .string ⟨#[]⟩, .int .u8 26, .int .i64 0, .string ⟨#[98]⟩, .int .u8 26, .int .i64 0, .string ⟨#[97]⟩, .int .u8 26, .int .i64 0, .string ⟨#[99]⟩, .int .u8 26, .int .i64 0, .string ⟨#[97]⟩] 48 23 23 48 Tryz.underlying23 xA.heap.size Minfo_part rfl (by decide) _ 2 (partsV callL) HOB_3.out 5 5 rfl (Nat.le_refl _) (fun u hu => parts_oneCell [(11, 4, ⟨#[]⟩), (26, 0, ⟨#[98]⟩), (26, 0, ⟨#[97]⟩), (26, 0, ⟨#[99]⟩), (26, 0, ⟨#[97]⟩)] u hu) (by omega) (by omega) HBB_3.out.size
 have HRB : RowKit.Hid (PartRow xB uB fixL) := Lib.hid (Row.of_owns hown)
 have hbx : Below xA.heap.size xA xB := (HBB_3.out.alloc HBB_3.out.size _).grown hgr (by have := HBB_3.out.size; simp; omega) (fun q e => (HOB_3.out.lt q e).1)
 have HBXB := Lib.hid (bthen HBXA.out hbx)
 have HCB := Lib.hid (HCA.out.below hbx)
 have HBYB := Lib.hid hbx
 obtain ⟨uaB, ucB, hv, _⟩ : ∃ a c, uB = .slice a 7 c ∧ 7 ≤ c := Row.shape HRB.out
 subst hv
 go_upto_region 4 with (at_builtin; refine wpList_append_run rfl _ _ _ _ hr rfl rfl rfl rfl ?_)
 clear hr hown hgr hbx HOB_3 HBB_3
 have HRF := Lib.hid (HRA.out.below HBYB.out)
 clear HRA HBYA HBYB HBXA HC HCA HCB
 have HRH : RowKit.Hid (HoleRow (xB.alloc (.cells #[.string ⟨#[120, 115]⟩, .int .u8 6, .string ⟨#[121, 115]⟩, .int .u8 6] 43)) (.slice (some ⟨xB.heap.size, 0, none⟩) 2 2) fixH) := Lib.hid (lit_holes xB fixH (by decide))
 have HBH : RowKit.Hid (Below w.heap.size w (xB.alloc (.cells #[.string ⟨#[120, 115]⟩, .int .u8 6, .string ⟨#[121, 115]⟩, .int .u8 6] 43))) := Lib.hid (HBXB.out.alloc HBXB.out.size _)
 have HRF2 := Lib.hid (HRF.out.below ((Below.refl _ _).alloc (Nat.le_refl _) (.cells #[.string ⟨#[120, 115]⟩, .int .u8 6, .string ⟨#[121, 115]⟩, .int .u8 6] 43)))
 have HRL2 := Lib.hid (HRB.out.below ((Below.refl _ _).alloc (Nat.le_refl _) (.cells #[.string ⟨#[120, 115]⟩, .int .u8 6, .string ⟨#[121, 115]⟩, .int .u8 6] 43)))
 go_upto_region 5 with (fail)
 have hab : Below (xB.alloc (.cells #[.string ⟨#[120, 115]⟩, .int .u8 6, .string ⟨#[121, 115]⟩, .int .u8 6] 43)).heap.size (xB.alloc (.cells #[.string ⟨#[120, 115]⟩, .int .u8 6, .string ⟨#[121, 115]⟩, .int .u8 6] 43)) ((xB.alloc (.cells #[.string ⟨#[120, 115]⟩, .int .u8 6, .string ⟨#[121, 115]⟩, .int .u8 6] 43)).alloc (.cells #[.string ⟨#[114]⟩, .int .u8 2, .slice (some ⟨xB.heap.size, 0, none⟩) 2 2, .slice uaA 6 ucA, .slice uaA 6 ucA] 25)) := (Below.refl _ _).alloc (Nat.le_refl _) _
 have HRK : RowKit.Hid (RK ((xB.alloc (.cells #[.string ⟨#[120, 115]⟩, .int .u8 6, .string ⟨#[121, 115]⟩, .int .u8 6] 43)).alloc (.cells #[.string ⟨#[114]⟩, .int .u8 2, .slice (some ⟨xB.heap.size, 0, none⟩) 2 2, .slice uaA 6 ucA, .slice uaA 6 ucA] 25)) (xB.alloc (.cells #[.string ⟨#[120, 115]⟩, .int .u8 6, .string ⟨#[121, 115]⟩, .int .u8 6] 43)).heap.size ⟨#[114]⟩ 2 (.slice (some ⟨xB.heap.size, 0, none⟩) 2 2) (.slice uaA 6 ucA) (.slice uaA 6 ucA)) := Lib.hid (heap_alloc_new _ _)
 have HRI : RowKit.Hid (RuleIn ((xB.alloc (.cells #[.string ⟨#[120, 115]⟩, .int .u8 6, .string ⟨#[121, 115]⟩, .int .u8 6] 43)).alloc (.cells #[.string ⟨#[114]⟩, .int .u8 2, .slice (some ⟨xB.heap.size, 0, none⟩) 2 2, .slice uaA 6 ucA, .slice uaA 6 ucA] 25)) fixR (.slice (some ⟨xB.heap.size, 0, none⟩) 2 2) (.slice uaA 6 ucA) (.slice uaA 6 ucA)) := Lib.hid ⟨HRH.out.below hab, HRF2.out.below hab, HRF2.out.below hab⟩
 have HRL := Lib.hid (HRL2.out.below hab)
 have HBW : RowKit.Hid (Below w.heap.size w ((xB.alloc (.cells #[.string ⟨#[120, 115]⟩, .int .u8 6, .string ⟨#[121, 115]⟩, .int .u8 6] 43)).alloc (.cells #[.string ⟨#[114]⟩, .int .u8 2, .slice (some ⟨xB.heap.size, 0, none⟩) 2 2, .slice uaA 6 ucA, .slice uaA 6 ucA] 25))) := Lib.hid (bthen HBH.out hab)
 clear hab HRH HRF2 HRL2 HBH HRF HRB HBXB
 rw [World.size_alloc] at HRK
 generalize ((xB.alloc (.cells #[.string ⟨#[120, 115]⟩, .int .u8 6, .string ⟨#[121, 115]⟩, .int .u8 6] 43)).alloc (.cells #[.string ⟨#[114]⟩, .int .u8 2, .slice (some ⟨xB.heap.size, 0, none⟩) 2 2, .slice uaA 6 ucA, .slice uaA 6 ucA] 25)) = W5 at *
 generalize xB.heap.size = gh at *
 obtain ⟨e0, e1, e2, e3, e4⟩ := HRK.out.cells
 have CM := Lib.hid (match_At fixR fixR_small _ _ _ fixL fixL_small _ 0 W5 (HT.out.below HBW.out) (HMX.out.below HBW.out) HRI.out HRL.out)
 have CM' : RowKit.Hid (Calls Tryz.prog 11 #[.agg #[.string ⟨#[114]⟩, .int .u8 2, .slice (some ⟨gh, 0, none⟩) 2 2, .slice uaA 6 ucA, .slice uaA 6 ucA], .slice uaB 7 ucB, .int .i64 0] W5 (atPost fixR (atZ fixR fixL 0) W5)) := CM
 clear CM
 go_wp2_with fail
 refine CM'.out.mono ?_
 intro e W6 hp
 obtain ⟨τ, hat⟩ : ∃ τ, atZ fixR fixL 0 = some τ := by
  cases h : atZ fixR fixL 0 with
  | none => have := fixM_yes; rw [h] at this; cases this
  | some τ => exact ⟨τ, rfl⟩
 have hbs : bindsOf fixH τ = [(nmXs, 3, 4), (nmYs, 5, 7)] := by have := fixM_yes; rw [hat] at this; exact Option.some.inj this
 unfold atPost at hp
 rw [hat] at hp
 obtain ⟨hb6, vq, rfl, hob⟩ := hp
 have hob : BindRow W6 vq [(nmXs, 3, 4), (nmYs, 5, 7)] := by
  have h1 : W6.ownsRow W5.heap.size 41 3 vq 2 (bindsV (bindsOf fixH τ)) := hob
  rw [hbs] at h1
  exact Row.of_owns h1
 obtain ⟨qa, qc, hv, _⟩ : ∃ a c, vq = .slice a 2 c ∧ 2 ≤ c := Row.shape hob
 subst hv
 have HOB := Lib.hid hob
 have HBW6 := Lib.hid (bthen HBW.out hb6)
 have HRK6 := Lib.hid (HRK.out.below hb6)
 have HRI6 := Lib.hid (HRI.out.below hb6)
 have HRL6 := Lib.hid (HRL.out.below hb6)
 clear hb6 hob CM' e0 e1 e2 e3 e4 hat hbs HRK HRI HRL HBW
 obtain ⟨e0, e1, e2, e3, e4⟩ := HRK6.out.cells
 have CM := Lib.hid (match_At fixR fixR_small _ _ _ fixL fixL_small _ 1 W6 (HT.out.below HBW6.out) (HMX.out.below HBW6.out) HRI6.out HRL6.out)
 have CM' : RowKit.Hid (Calls Tryz.prog 11 #[.agg #[.string ⟨#[114]⟩, .int .u8 2, .slice (some ⟨gh, 0, none⟩) 2 2, .slice uaA 6 ucA, .slice uaA 6 ucA], .slice uaB 7 ucB, .int .i64 1] W6 (atPost fixR (atZ fixR fixL 1) W6)) := CM
 clear CM
 go_wp2_with fail
 refine CM'.out.mono ?_
 intro e W7 hp
 unfold atPost at hp
 rw [fixM_no] at hp
 obtain ⟨hb7, rfl⟩ := hp
 have HOB7 := Lib.hid (HOB.out.below hb7)
 have HBW7 := Lib.hid (bthen HBW6.out hb7)
 clear hb7 CM' e0 e1 e2 e3 e4 HRK6 HRI6 HRL6 HBW6 HOB
 have HLB : RowKit.Hid (BindRow (W7.alloc (.cells #[.string ⟨#[120, 115]⟩, .int .i64 3, .int .i64 4, .string ⟨#[121, 115]⟩, .int .i64 5, .int .i64 7] 41)) (.slice (some ⟨W7.heap.size, 0, none⟩) 2 2) [(nmXs, 3, 4), (nmYs, 5, 7)]) := Lib.hid (lit_binds W7 [(nmXs, 3, 4), (nmYs, 5, 7)] (by decide))
 have CS := Lib.hid (ref_SameBinds _ _ (by decide) (by decide) _ _ _ (HOB7.out.below ((Below.refl _ _).alloc (Nat.le_refl _) (.cells #[.string ⟨#[120, 115]⟩, .int .i64 3, .int .i64 4, .string ⟨#[121, 115]⟩, .int .i64 5, .int .i64 7] 41))) HLB.out)
 go_wp2_with fail
 refine CS.out.mono ?_
 rintro e W8 ⟨x, rfl, ht, hb8⟩
 obtain rfl := ht.2 rfl
 have HX := Lib.hid (HQ.out W8 (bthen (HBW7.out.alloc HBW7.out.size _) hb8))
 clear hb8 CS ht
 go_wp2_with fail
 exact HX.out
end Go.Proofs.YtlkheofphafofaaGreatDoor
